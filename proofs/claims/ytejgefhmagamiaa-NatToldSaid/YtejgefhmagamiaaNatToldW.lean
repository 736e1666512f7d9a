/-
  The walk of the statement NatTold.
-/
import Derived.Test.YtejgefhmagamiaaTelling
import Derived.Test.YtejgefhmagamiaaAdding
namespace Go.Proofs.Ytejgefhmagamiaa
open Go.RowKit

theorem text_short {zs : List Nat} {s : ByteArray} (h : Lb zs) (ht : isT (bytes s) (val zs)) (hl : zs.length ≤ 100) : s.size ≤ 1001 := by
  have h1 : val zs < 10 ^ (10 * zs.length + 1) := Nat.lt_of_lt_of_le (Nat.lt_of_lt_of_le (val_lt h) (pw_10 _)) (Nat.pow_le_pow_right (by omega) (by omega))
  have := isT_short ht h1 (by omega)
  rw [bytes_length] at this
  omega
def ToldR (w : World) (s : ByteArray) (N : Nat) (out i : Value) (wr : World) : Prop :=
  ∃ (k : Nat) (q : ByteArray), i = .int .i64 k ∧ out = .string q ∧ k ≤ 31 ∧ q.size = s.size + k ∧ alld q q.size ∧ dvk q q.size = N ∧ w = wr
theorem told_bytes (q : ByteArray) : bytes ((⟨#[48]⟩ : ByteArray) ++ q) = 48 :: bytes q := by rw [bytes_append]; rfl
theorem told_alld {q : ByteArray} (h : alld q q.size) : alld ((⟨#[48]⟩ : ByteArray) ++ q) ((⟨#[48]⟩ : ByteArray) ++ q).size := by
  rw [alld_allD, told_bytes]
  intro c hc
  rcases List.mem_cons.1 hc with rfl | hc
  · omega
  · exact (alld_allD q).1 h c hc
theorem told_dvk {q : ByteArray} {N : Nat} (h : dvk q q.size = N) : dvk ((⟨#[48]⟩ : ByteArray) ++ q) ((⟨#[48]⟩ : ByteArray) ++ q).size = N := by
  rw [dvk_all, told_bytes, dvl_cons, ← dvk_all, h]; simp

set_option maxHeartbeats 4000000 in
theorem natTold_walk (a0 : Option Addr) (c0 : Nat) (z0 : List Nat) (a1 : Option Addr) (c1 : Nat) (z1 : List Nat) (a2 : Int) (w : World) (hA : Rd w a0 c0 z0) (hB : Rd w a1 c1 z1) (_h2 : (Lit.int .i64 a2).wf = true) :
    Calls Try.prog 6 #[.slice a0 z0.length c0, .slice a1 z1.length c1, .int .i64 a2] w fun e w' => e = .returned (.bool true) ∧ Ext w w' := by
  by_cases hs : (z0.length : Int) ≤ 100 ∧ (z1.length : Int) ≤ 100
  · have hd : decide ((z0.length : Int) ≤ 100 ∧ (z1.length : Int) ≤ 100) = true := decide_eq_true hs
    have hd := Lib.hid hd
    obtain ⟨M, hM, hM0, hM1⟩ := and31 a2
    go_enter Try.func6, Try.ntmps6
    go_wp2_with fail
    refine (telling_any _).mono ?_
    rintro e w1 ⟨rfl, hE⟩
    go_wp2_with fail
    refine (adding_any _).mono ?_
    rintro e w2 ⟨rfl, hE2⟩
    replace hE := hE.trans hE2
    clear hE2
    go_wp2_with fail
    refine (short_any _ _ _ _ _ _ _ _).mono ?_
    rintro e w' ⟨rfl, rfl⟩
    rw [hd.out]
    go_wp2_with fail
    refine (Text_any _ _ _ z0 _ rfl (hA.ext hE) (by omega)).mono ?_
    rintro e w1 ⟨Ss, rfl, St, x⟩
    have st := x
    replace hE := hE.trans st
    clear st x
    go_wp2_with fail
    refine (Text_any _ _ _ z1 _ rfl (hB.ext hE) (by omega)).mono ?_
    rintro e w2 ⟨Ts, rfl, Tt, x⟩
    have st := x
    replace hE := hE.trans st
    clear st x
    have lS : Ss.size ≤ 1001 := text_short hA.lb St (by omega)
    have lT : Ts.size ≤ 1001 := text_short hB.lb Tt (by omega)
    have pS := Lib.hid (parse_isT St (by omega))
    go_wp2_with fail
    refine (Parse_any _ _).mono ?_
    rw [pS.out]
    rintro e w3 ⟨Xa, Xc, Xz, rfl, Xo, Xk, Xv, x⟩
    replace Xv := Lib.hid Xv
    have Xr := Xo.rd
    have st := x
    replace hE := hE.trans st
    clear st x
    go_wp2_with fail
    go_loopw [11, 12] (ToldR w3 Ss (val z0)) (fun _ i _ => (31 - intOf i).toNat)
    case atStart => exact ⟨0, Ss, rfl, rfl, by omega, by rw [Nat.add_zero], (alld_allD Ss).2 St.2.1, by rw [dvk_all]; exact St.2.2.1, rfl⟩
    case round =>
      obtain ⟨k, q, rfl, rfl, hk, hq1, hq2, hq3, rfl⟩ := hrel
      by_cases hkM : (k : Int) < M
      · have hqs : q.size ≤ 2000 := by omega
        go_wp2_with fail
        go_roundw
        case rel => exact ⟨k + 1, _, by go_num, rfl, by omega, by rw [ByteArray.size_append, hq1]; show 1 + (Ss.size + k) = Ss.size + (k + 1); omega, told_alld hq2, told_dvk hq3, rfl⟩
        case measure => simp [intOf]; omega
      · have pQ : parseV q = (0, val z0) := by rw [parseV_ok (by omega) (by have := St.1; rw [bytes_length] at this; omega) hq2, hq3]
        have pQ := Lib.hid pQ
        have Q1 := Lib.hid hq1
        clear hq1 hq2 hq3
        go_wp2_with fail
        refine (Parse_any _ _).mono ?_
        rw [pQ.out]
        rintro e w4 ⟨Ya, Yc, Yz, rfl, Yo, Yk, Yv, x⟩
        replace Yv := Lib.hid Yv
        have Yr := Yo.rd
        have st := x
        replace Xr := Xr.ext st
        replace hE := hE.trans st
        clear st x
        go_wp2_with fail
        refine (Cmp_eq _ _ _ Xz _ _ _ z0 _ rfl rfl Xr (hA.ext hE) Xv.out).mono ?_
        rintro e w5 ⟨rfl, x⟩
        replace x := x.ext
        have st := x
        replace Xr := Xr.ext st
        replace Yr := Yr.ext st
        replace hE := hE.trans st
        clear st x
        go_wp2_with fail
        refine (Cmp_eq _ _ _ Yz _ _ _ z0 _ rfl rfl Yr (hA.ext hE) Yv.out).mono ?_
        rintro e w6 ⟨rfl, x⟩
        replace x := x.ext
        have st := x
        replace Yr := Yr.ext st
        replace hE := hE.trans st
        clear st x
        have hone : (∀ w, (Instr.index 9 (.string Ss) (.int .i64 0)).run Try.prog w = .ok (.int .u8 (ch Ss 0)) w) := chk Ss 0 (by have := St.1; rw [bytes_length] at this; omega)
        have hless : Ss.size = Ts.size → Op.bytesLess Ss.toList Ts.toList = decide (val z0 < val z1) := fun h => less_isT St Tt h
        have hsame : (Ss.toList == Ts.toList) = decide (val z0 = val z1) := eq_isT St Tt
        have hfirst : 1 < Ss.size → ((ch Ss 0 : Int) == 48) = false := fun h => beq_eq_false_iff_ne.2 (by have := isT_first St h; omega)
        have hltS : Ss.size < Ts.size → val z0 < val z1 := fun h => isT_len_lt St Tt (by rw [bytes_length, bytes_length]; exact h)
        have hltT : Ts.size < Ss.size → val z1 < val z0 := fun h => isT_len_lt Tt St (by rw [bytes_length, bytes_length]; exact h)
        have Hless := Lib.hid hless
        have Hsame := Lib.hid hsame
        have HltS := Lib.hid hltS
        have HltT := Lib.hid hltT
        have Hfirst := Lib.hid hfirst
        clear hless hsame hltS hltT hfirst St Tt pS pQ Q1
        obtain ⟨hE2, _⟩ : Ext w _ ∧ True := ⟨hE, trivial⟩
        by_cases h1 : 1 < Ss.size
        · have hf := Hfirst.out h1
          have hd1 : decide (1 < (Ss.size : Int)) = true := decide_eq_true (by omega)
          rcases Nat.lt_trichotomy Ss.size Ts.size with hl | hl | hl
          · have hb : ((Ss.size : Int) == (Ts.size : Int)) = false := beq_eq_false_iff_ne.2 (by omega)
            have hd : decide (Ss.size < Ts.size) = true := decide_eq_true hl
            have Hc := Lib.hid (HltS.out hl)
            go_wp2_with fail
            refine (Cmp_lt _ _ _ z0 _ _ _ z1 _ rfl rfl (hA.ext hE) (hB.ext hE) Hc.out).mono ?_
            rintro e w9 ⟨rfl, x⟩
            replace hE := hE.trans x.ext
            go_wp2_with fail
            go_ret
            exact ⟨rfl, hE⟩
          · have hb : ((Ss.size : Int) == (Ts.size : Int)) = true := beq_iff_eq.2 (by omega)
            have hls := Hless.out hl
            have hsm := Hsame.out
            clear hl
            rcases Nat.lt_trichotomy (val z0) (val z1) with hv | hv | hv
            · have hb1 : Op.bytesLess Ss.toList Ts.toList = true := by rw [hls]; exact decide_eq_true hv
              have hb2 : (Ss.toList == Ts.toList) = false := by rw [hsm]; exact decide_eq_false (by omega)
              have Hv := Lib.hid hv
              clear hls hsm hv
              go_wp2_with fail
              refine (Cmp_lt _ _ _ z0 _ _ _ z1 _ rfl rfl (hA.ext hE) (hB.ext hE) Hv.out).mono ?_
              rintro e w9 ⟨rfl, x⟩
              replace hE := hE.trans x.ext
              go_wp2_with fail
              refine (Cmp_lt _ _ _ z0 _ _ _ z1 _ rfl rfl (hA.ext hE) (hB.ext hE) Hv.out).mono ?_
              rintro e w9 ⟨rfl, x⟩
              replace hE := hE.trans x.ext
              go_wp2_with fail
              go_ret
              exact ⟨rfl, hE⟩
            · have hb1 : Op.bytesLess Ss.toList Ts.toList = false := by rw [hls]; exact decide_eq_false (by omega)
              have hb2 : (Ss.toList == Ts.toList) = true := by rw [hsm]; exact decide_eq_true hv
              have Hv := Lib.hid hv
              clear hls hsm hv
              go_wp2_with fail
              refine (Cmp_eq _ _ _ z0 _ _ _ z1 _ rfl rfl (hA.ext hE) (hB.ext hE) Hv.out).mono ?_
              rintro e w9 ⟨rfl, x⟩
              replace hE := hE.trans x.ext
              go_wp2_with fail
              refine (Cmp_eq _ _ _ z0 _ _ _ z1 _ rfl rfl (hA.ext hE) (hB.ext hE) Hv.out).mono ?_
              rintro e w9 ⟨rfl, x⟩
              replace hE := hE.trans x.ext
              go_wp2_with fail
              go_ret
              exact ⟨rfl, hE⟩
            · have hb1 : Op.bytesLess Ss.toList Ts.toList = false := by rw [hls]; exact decide_eq_false (by omega)
              have hb2 : (Ss.toList == Ts.toList) = false := by rw [hsm]; exact decide_eq_false (by omega)
              have Hv := Lib.hid hv
              clear hls hsm hv
              go_wp2_with fail
              refine (Cmp_gt _ _ _ z0 _ _ _ z1 _ rfl rfl (hA.ext hE) (hB.ext hE) Hv.out).mono ?_
              rintro e w9 ⟨rfl, x⟩
              replace hE := hE.trans x.ext
              go_wp2_with fail
              refine (Cmp_gt _ _ _ z0 _ _ _ z1 _ rfl rfl (hA.ext hE) (hB.ext hE) Hv.out).mono ?_
              rintro e w9 ⟨rfl, x⟩
              replace hE := hE.trans x.ext
              go_wp2_with fail
              go_ret
              exact ⟨rfl, hE⟩
          · have hb : ((Ss.size : Int) == (Ts.size : Int)) = false := beq_eq_false_iff_ne.2 (by omega)
            have hd : decide (Ss.size < Ts.size) = false := decide_eq_false (by omega)
            have Hc := Lib.hid (HltT.out hl)
            go_wp2_with fail
            refine (Cmp_gt _ _ _ z0 _ _ _ z1 _ rfl rfl (hA.ext hE) (hB.ext hE) Hc.out).mono ?_
            rintro e w9 ⟨rfl, x⟩
            replace hE := hE.trans x.ext
            go_wp2_with fail
            go_ret
            exact ⟨rfl, hE⟩
        · have hd1 : decide (1 < (Ss.size : Int)) = false := decide_eq_false (by omega)
          rcases Nat.lt_trichotomy Ss.size Ts.size with hl | hl | hl
          · have hb : ((Ss.size : Int) == (Ts.size : Int)) = false := beq_eq_false_iff_ne.2 (by omega)
            have hd : decide (Ss.size < Ts.size) = true := decide_eq_true hl
            have Hc := Lib.hid (HltS.out hl)
            go_wp2_with fail
            refine (Cmp_lt _ _ _ z0 _ _ _ z1 _ rfl rfl (hA.ext hE) (hB.ext hE) Hc.out).mono ?_
            rintro e w9 ⟨rfl, x⟩
            replace hE := hE.trans x.ext
            go_wp2_with fail
            go_ret
            exact ⟨rfl, hE⟩
          · have hb : ((Ss.size : Int) == (Ts.size : Int)) = true := beq_iff_eq.2 (by omega)
            have hls := Hless.out hl
            have hsm := Hsame.out
            clear hl
            rcases Nat.lt_trichotomy (val z0) (val z1) with hv | hv | hv
            · have hb1 : Op.bytesLess Ss.toList Ts.toList = true := by rw [hls]; exact decide_eq_true hv
              have hb2 : (Ss.toList == Ts.toList) = false := by rw [hsm]; exact decide_eq_false (by omega)
              have Hv := Lib.hid hv
              clear hls hsm hv
              go_wp2_with fail
              refine (Cmp_lt _ _ _ z0 _ _ _ z1 _ rfl rfl (hA.ext hE) (hB.ext hE) Hv.out).mono ?_
              rintro e w9 ⟨rfl, x⟩
              replace hE := hE.trans x.ext
              go_wp2_with fail
              refine (Cmp_lt _ _ _ z0 _ _ _ z1 _ rfl rfl (hA.ext hE) (hB.ext hE) Hv.out).mono ?_
              rintro e w9 ⟨rfl, x⟩
              replace hE := hE.trans x.ext
              go_wp2_with fail
              go_ret
              exact ⟨rfl, hE⟩
            · have hb1 : Op.bytesLess Ss.toList Ts.toList = false := by rw [hls]; exact decide_eq_false (by omega)
              have hb2 : (Ss.toList == Ts.toList) = true := by rw [hsm]; exact decide_eq_true hv
              have Hv := Lib.hid hv
              clear hls hsm hv
              go_wp2_with fail
              refine (Cmp_eq _ _ _ z0 _ _ _ z1 _ rfl rfl (hA.ext hE) (hB.ext hE) Hv.out).mono ?_
              rintro e w9 ⟨rfl, x⟩
              replace hE := hE.trans x.ext
              go_wp2_with fail
              refine (Cmp_eq _ _ _ z0 _ _ _ z1 _ rfl rfl (hA.ext hE) (hB.ext hE) Hv.out).mono ?_
              rintro e w9 ⟨rfl, x⟩
              replace hE := hE.trans x.ext
              go_wp2_with fail
              go_ret
              exact ⟨rfl, hE⟩
            · have hb1 : Op.bytesLess Ss.toList Ts.toList = false := by rw [hls]; exact decide_eq_false (by omega)
              have hb2 : (Ss.toList == Ts.toList) = false := by rw [hsm]; exact decide_eq_false (by omega)
              have Hv := Lib.hid hv
              clear hls hsm hv
              go_wp2_with fail
              refine (Cmp_gt _ _ _ z0 _ _ _ z1 _ rfl rfl (hA.ext hE) (hB.ext hE) Hv.out).mono ?_
              rintro e w9 ⟨rfl, x⟩
              replace hE := hE.trans x.ext
              go_wp2_with fail
              refine (Cmp_gt _ _ _ z0 _ _ _ z1 _ rfl rfl (hA.ext hE) (hB.ext hE) Hv.out).mono ?_
              rintro e w9 ⟨rfl, x⟩
              replace hE := hE.trans x.ext
              go_wp2_with fail
              go_ret
              exact ⟨rfl, hE⟩
          · have hb : ((Ss.size : Int) == (Ts.size : Int)) = false := beq_eq_false_iff_ne.2 (by omega)
            have hd : decide (Ss.size < Ts.size) = false := decide_eq_false (by omega)
            have Hc := Lib.hid (HltT.out hl)
            go_wp2_with fail
            refine (Cmp_gt _ _ _ z0 _ _ _ z1 _ rfl rfl (hA.ext hE) (hB.ext hE) Hc.out).mono ?_
            rintro e w9 ⟨rfl, x⟩
            replace hE := hE.trans x.ext
            go_wp2_with fail
            go_ret
            exact ⟨rfl, hE⟩
  · have hd : decide ((z0.length : Int) ≤ 100 ∧ (z1.length : Int) ≤ 100) = false := decide_eq_false hs
    have hd := Lib.hid hd
    clear hs
    go_enter Try.func6, Try.ntmps6
    go_wp2_with fail
    refine (telling_any _).mono ?_
    rintro e w1 ⟨rfl, hE⟩
    go_wp2_with fail
    refine (adding_any _).mono ?_
    rintro e w2 ⟨rfl, hE2⟩
    go_wp2_with fail
    refine (short_any _ _ _ _ _ _ _ _).mono ?_
    rintro e w' ⟨rfl, rfl⟩
    rw [hd.out]
    go_wp2_with fail
    go_ret
    exact ⟨rfl, hE.trans hE2⟩
end Go.Proofs.Ytejgefhmagamiaa
