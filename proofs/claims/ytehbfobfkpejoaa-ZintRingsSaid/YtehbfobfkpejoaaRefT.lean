/-
  Contract of the reference's Parse.
-/
import Derived.Test.YtehbfobfkpejoaaNatT
import Derived.Deep.RegionWith
namespace Go.Proofs.Ytehbfobfkpejoaa
open Go.RowKit

def RParseR (w : World) (s : ByteArray) (out i : Value) (wr : World) : Prop :=
  ∃ (k : Nat) (po : Option Addr) (pc : Nat) (zs : List Nat), k ≤ s.size ∧ i = .int .i64 k ∧ out = .slice po zs.length pc ∧ zs.length ≤ k ∧ Rd wr po pc zs ∧ Ext w wr ∧ Hid (alld s k) ∧ Hid (val zs = dvk s k)

theorem pow10_pw (k : Nat) : 10 ^ k ≤ pw k := by
  unfold pw; exact Nat.pow_le_pow_left (by omega) k

set_option maxRecDepth 100000 in
set_option maxHeartbeats 2000000 in
theorem RParse_any (s : ByteArray) (w : World) :
    Calls Try.prog 64 #[.string s] w (GotParse w (parseV s)) := by
  by_cases hlong : 4000 < s.size
  · rw [parseV_long hlong]
    go_enter Try.func64, Try.ntmps64
    go_wp2_with fail
    go_ret2
    exact ⟨none, 0, [], rfl, Own.nil _ _, canon_nil, rfl, Ext.refl _⟩
  have hdec : decide (4000 < (s.size : Int)) = false := decide_eq_false (by omega)
  have hs : s.size ≤ 4000 := by omega
  go_enter Try.func64, Try.ntmps64
  go_wp2_with fail
  go_loopw [4, 5] (RParseR w s) (fun _ i _ => (s.size - intOf i).toNat)
  case atStart => exact ⟨0, _, _, [], by omega, rfl, rfl, by simp, (own_empty w).rd, (Ext.refl w).alloc _, (fun i hi => by omega), by simp [Hid, val, dvk]⟩
  case round =>
    obtain ⟨k, po, pc, zs, hk, rfl, rfl, hzk, hrd, hext, had, heq⟩ := hrel
    by_cases hkA : k < s.size
    · have hix := fun w => chk s k hkA w
      have hlt := ch_lt s k
      by_cases hd : 48 ≤ ch s k ∧ ch s k ≤ 57
      · have hb1 : decide ((ch s k : Int) < 48) = false := decide_eq_false (by omega)
        have hb2 : decide (57 < (ch s k : Int)) = false := decide_eq_false (by omega)
        have hstep : dvk s (k + 1) = val zs * 10 + (ch s k - 48) := by rw [dvk_succ, heq.out]
        have Hs := Lib.hid hstep
        clear hstep
        have had' : Hid (alld s (k + 1)) := fun i hi => by
          rcases Nat.lt_succ_iff_lt_or_eq.1 hi with h | rfl
          · exact had i h
          · exact hd
        have hlen : dvk s (k + 1) < pw (k + 1) := Nat.lt_of_lt_of_le (dvk_lt s (k + 1) had'.out) (pow10_pw _)
        have Hl := Lib.hid hlen
        clear hlen
        have bd : ch s k - 48 < 10 := by omega
        have bl : val [ch s k - 48] = ch s k - 48 := by simp [val]
        have Bl := Lib.hid bl
        clear bl
        have hzb : zs.length ≤ 10000 := by omega
        have hz1 : ∀ z1, Canon z1 → val z1 = val zs * 10 → z1.length ≤ 10000000 := by
          intro z1 hc hv
          have h1 := Hl.out
          rw [Hs.out] at h1
          have := canon_len (n := k + 1) hc (by omega)
          omega
        have Hz1 := Lib.hid hz1
        clear hz1
        have hw1 : IntKind.u8.wrap ((ch s k : Int) - 48) = ((ch s k - 48 : Nat) : Int) := by rw [IntWalk.u8_in _ (by omega)]; omega
        have hw2 : IntKind.u32.wrap ((ch s k - 48 : Nat) : Int) = ((ch s k - 48 : Nat) : Int) := IntWalk.u32_in _ (by omega)
        go_wp2_with fail
        go_region_with (first
          | (go_at_call 88; refine (small_any _ _ _ zs _ 10 _ rfl rfl ?_ ?_ ?_).mono ?_; (first | exact hrd.ext (Ext.refl _).drew | exact hrd.ext ((Ext.refl _).alloc _).drew); omega; omega; rintro e w1 ⟨ao1, c1, z1, rfl, o1, k1, v1, x1⟩; replace v1 := Lib.hid v1)
          | (go_at_call 70; refine (RAdd_any _ _ _ z1 _ _ _ [ch s k - 48] _ rfl rfl ?_ ?_ ?_ ?_).mono ?_; (first | exact o1.rd.ext ((Ext.refl _).alloc _) | exact o1.rd); (first | exact (row1 _ _ (ch s k - 48) rfl (by omega)).rd | exact ((row1 _ _ (ch s k - 48) rfl (by omega)).rd.ext (Ext.refl _).drew).ext x1); exact Hz1.out z1 k1 v1.out; simp; rintro e w2 ⟨ao2, c2, z2, rfl, o2, k2, v2, x2⟩; replace v2 := Lib.hid v2))
        all_goals
          clear hw1 hw2 hix
          go_wp2_with fail
          go_roundw
          case rel =>
            have hv2 : val z2 = dvk s (k + 1) := by rw [v2.out, v1.out, Bl.out, Hs.out]
            refine ⟨k + 1, ao2, c2, z2, by omega, by go_num, rfl, canon_len k2 (by rw [hv2]; exact Hl.out), o2.rd, ?_, had', hv2⟩
            first
            | exact ((hext.drew.trans x1).alloc _).trans x2
            | exact ((hext.alloc _).drew.trans x1).trans x2
          case measure => simp [intOf]; omega
      · have hbad : parseV s = (20, 0) := parseV_bad hlong (.inr (fun h => hd (h k hkA)))
        have Hbad := Lib.hid hbad
        clear hbad
        by_cases h48 : ch s k < 48
        · have hb1 : decide ((ch s k : Int) < 48) = true := decide_eq_true (by omega)
          go_wp2_with fail
          go_ret2
          exact ⟨none, 0, [], by rw [Hbad.out]; rfl, Own.nil _ _, canon_nil, by rw [Hbad.out]; rfl, hext⟩
        · have hb1 : decide ((ch s k : Int) < 48) = false := decide_eq_false (by omega)
          have hb2 : decide (57 < (ch s k : Int)) = true := decide_eq_true (by omega)
          go_wp2_with fail
          go_ret2
          exact ⟨none, 0, [], by rw [Hbad.out]; rfl, Own.nil _ _, canon_nil, by rw [Hbad.out]; rfl, hext⟩
    · have hks : s.size = k := by omega
      by_cases h0 : k = 0
      · have hbad : parseV s = (20, 0) := parseV_bad hlong (.inl (by omega))
        have Hbad := Lib.hid hbad
        have hz : ((s.size : Int) == 0) = true := beq_iff_eq.2 (by omega)
        clear hbad hks
        subst h0
        go_wp2_with fail
        go_ret2
        exact ⟨none, 0, [], by rw [Hbad.out]; rfl, Own.nil _ _, canon_nil, by rw [Hbad.out]; rfl, hext⟩
      · have hok : parseV s = (0, val zs) := by
          have := parseV_ok hlong (by omega) (by rw [hks]; exact had)
          rw [this, hks, heq.out]
        have hz : ((s.size : Int) == 0) = false := beq_eq_false_iff_ne.2 (by omega)
        have Hok := Lib.hid hok
        clear hok hks
        go_wp2_with fail
        refine (RTrim_any _ _ _ _ _ rfl hrd (by omega)).mono ?_
        intro e w2 hg
        obtain ⟨ao3, c3, zs3, rfl, h1, h2, h3, h4⟩ := hg.from hext
        go_wp2_with fail
        go_ret2
        exact ⟨ao3, c3, zs3, by rw [Hok.out]; rfl, h1, h2, by rw [Hok.out]; exact h3, h4⟩
end Go.Proofs.Ytehbfobfkpejoaa
