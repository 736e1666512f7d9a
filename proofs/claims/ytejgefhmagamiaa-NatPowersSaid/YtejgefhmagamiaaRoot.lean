/-
  Contracts of nat.Pow at every argument, and of nat.Root.
-/
import Derived.Test.YtejgefhmagamiaaPow
import Derived.Test.YtejgefhmagamiaaDivD
import Derived.Test.YtejgefhmagamiaaGcd
namespace Go.Proofs.Ytejgefhmagamiaa
open Go.RowKit

set_option maxHeartbeats 1000000 in
theorem Pow_any (ao : Option Addr) (n c : Nat) (xs : List Nat) (E : Int) (w : World) (hn : n = xs.length) (ha : Rd w ao c xs) (hl : xs.length ≤ 100000) :
    Calls Try.prog 46 #[.slice ao n c, .int .i64 E] w (GotE w (powN (val xs) E).2 (powN (val xs) E).1) := by
  by_cases h1 : E < 0
  · subst hn
    have hr : powN (val xs) E = (1, 0) := by unfold powN; rw [if_pos h1]
    rw [hr]
    clear hr
    go_enter Try.func46, Try.ntmps46
    go_wp2_with fail
    refine (Bits_any _ _ _ xs _ rfl ha (by omega)).mono ?_
    rintro e w' ⟨rfl, rfl⟩
    go_wp2_with fail
    go_ret2
    exact ⟨none, 0, [], rfl, Own.nil _ _, canon_nil, rfl, Ext.refl _⟩
  · obtain ⟨K, rfl⟩ := Int.eq_ofNat_of_zero_le (show 0 ≤ E by omega)
    by_cases hz : val xs = 0 ∧ 0 < K
    · subst hn
      have hr : powN (val xs) K = (0, 0) := by
        unfold powN
        rw [if_neg h1, hz.1, if_neg (by simp [nb]), Int.toNat_natCast, Nat.zero_pow hz.2]
      have e0 : nb (val xs) = 0 := by rw [hz.1]; rfl
      have E0 := Lib.hid e0
      have hd : decide (0 < K) = true := decide_eq_true hz.2
      have hp := hz.2
      rw [hr]
      clear hr hz e0
      go_enter Try.func46, Try.ntmps46
      go_wp2_with fail
      refine (Bits_any _ _ _ xs _ rfl ha (by omega)).mono ?_
      rintro e w' ⟨rfl, rfl⟩
      rw [E0.out]
      go_wp2_with fail
      go_ret2
      exact ⟨none, 0, [], rfl, Own.nil _ _, canon_nil, rfl, Ext.refl _⟩
    · by_cases hbig : 0 < nb (val xs) ∧ 1048576 / (nb (val xs) : Int) < (K : Int)
      · subst hn
        have hr : powN (val xs) K = (2, 0) := by unfold powN; rw [if_neg h1, if_pos hbig]
        rw [hr]
        have hnb := nb_le_len ha.lb (Nat.le_refl xs.length)
        obtain ⟨b, hb⟩ : ∃ b, b = nb (val xs) := ⟨_, rfl⟩
        rw [← hb] at hbig hnb
        have Hb := Lib.hid hb
        obtain ⟨hb0, hb1⟩ := hbig
        have hd1 : decide (0 < b) = true := decide_eq_true hb0
        have hd2 : ((b : Int) == 0) = false := beq_eq_false_iff_ne.2 (by omega)
        have hd3 : decide (1048576 / (b : Int) < (K : Int)) = true := decide_eq_true hb1
        have hK0 : ¬ (K : Int) < 0 := by omega
        clear hr hb hz
        go_enter Try.func46, Try.ntmps46
        go_wp2_with fail
        refine (Bits_any _ _ _ xs _ rfl ha (by omega)).mono ?_
        rintro e w' ⟨rfl, rfl⟩
        rw [← Hb.out]
        go_wp2_with fail
        go_ret2
        exact ⟨none, 0, [], rfl, Own.nil _ _, canon_nil, rfl, Ext.refl _⟩
      · have hr : powN (val xs) K = (0, val xs ^ K) := by
          unfold powN
          rw [if_neg h1, if_neg hbig, Int.toNat_natCast]
        rw [hr]
        rcases Nat.eq_zero_or_pos (nb (val xs)) with h0 | h0
        · have hv : val xs = 0 := by
            by_cases e : val xs = 0
            · exact e
            · have := (nb_pos_iff _).2 e; omega
          have hK : K = 0 := by
            rcases Nat.eq_zero_or_pos K with h | h
            · exact h
            · exact absurd ⟨hv, h⟩ hz
          subst hK
          refine Pow_loop ao n c xs 0 4 w hn ha hl (decide_eq_false fun h => by omega) (.inr rfl) (by omega) (by rw [Nat.pow_zero]; decide) (by rw [Nat.pow_zero]; exact Nat.one_lt_pow (by decide) (by decide)) (by omega) (by omega)
        · have hle : ¬ 1048576 / (nb (val xs) : Int) < (K : Int) := fun h => hbig ⟨h0, h⟩
          have h3 : K ≤ 1048576 / nb (val xs) := by
            have : ((1048576 / nb (val xs) : Nat) : Int) = 1048576 / (nb (val xs) : Int) := by rw [Int.natCast_ediv]; rfl
            omega
          have h4 : nb (val xs) * K ≤ nb (val xs) * (1048576 / nb (val xs)) := Nat.mul_le_mul_left _ h3
          have h5 := Nat.mul_div_le 1048576 (nb (val xs))
          have h6 : 1048576 / nb (val xs) ≤ 1048576 := Nat.div_le_self _ _
          have hne := (nb_pos_iff _).1 h0
          exact Pow_loop ao n c xs K 32769 w hn ha hl (decide_eq_false fun h => hle h.2) (.inl h0) (by omega) (Nat.ne_of_gt (Nat.pow_pos (Nat.pos_of_ne_zero hne))) (pow_fits (by omega)) (by omega) (by omega)

/-- one step of the root's search -/
theorem root_up {a x : Nat} (hx : 0 < x) : a < ((x + a / x) / 2 + 1) * ((x + a / x) / 2 + 1) := by
  obtain ⟨q, hq⟩ : ∃ q, q = a / x := ⟨_, rfl⟩
  obtain ⟨m, hm⟩ : ∃ m, m = (x + a / x) / 2 + 1 := ⟨_, rfl⟩
  rw [← hm]
  rw [← hq] at hm
  have h1 : a < x * (q + 1) := by
    have := Nat.lt_mul_div_succ a hx
    rw [← hq] at this; exact this
  have h2 : x + (q + 1) ≤ 2 * m := by omega
  have h3 : (x + (q + 1)) * (x + (q + 1)) ≤ (2 * m) * (2 * m) := Nat.mul_le_mul h2 h2
  have h4 : 4 * (x * (q + 1)) ≤ (x + (q + 1)) * (x + (q + 1)) := by
    have sq : ∀ u v : Nat, u ≤ v → 4 * (u * v) ≤ (u + v) * (u + v) := by
      intro u v huv
      obtain ⟨d, rfl⟩ := Nat.exists_eq_add_of_le huv
      have e1 : (u + (u + d)) * (u + (u + d)) = 4 * (u * (u + d)) + d * d := by
        simp only [Nat.mul_add, Nat.add_mul]
        have := Nat.mul_comm d u
        omega
      omega
    rcases Nat.le_total x (q + 1) with h | h
    · exact sq _ _ h
    · have := sq _ _ h
      rw [Nat.mul_comm (q + 1) x, Nat.add_comm (q + 1) x] at this
      exact this
  have h5 : (2 * m) * (2 * m) = 4 * (m * m) := by
    rw [Nat.mul_mul_mul_comm]
  omega
theorem root_end {a x : Nat} (h : x ≤ (x + a / x) / 2) : x * x ≤ a := by
  have h1 : x ≤ a / x := by omega
  have h2 : x * x ≤ x * (a / x) := Nat.mul_le_mul_left _ h1
  have h3 := Nat.mul_div_le a x
  omega
theorem root_start (a : Nat) : a < (2 ^ ((nb a + 1) / 2) + 1) * (2 ^ ((nb a + 1) / 2) + 1) := by
  have h1 := nb_lt a
  have h2 : 2 ^ nb a ≤ 2 ^ ((nb a + 1) / 2) * 2 ^ ((nb a + 1) / 2) := by
    rw [← Nat.pow_add]; exact Nat.pow_le_pow_right (by omega) (by omega)
  have h3 : 2 ^ ((nb a + 1) / 2) * 2 ^ ((nb a + 1) / 2) ≤ (2 ^ ((nb a + 1) / 2) + 1) * (2 ^ ((nb a + 1) / 2) + 1) := Nat.mul_le_mul (by omega) (by omega)
  omega

/-- a root as it is answered -/
def GotR (w : World) (a : Nat) (e : Ending) (w' : World) : Prop := ∃ m, m * m ≤ a ∧ a < (m + 1) * (m + 1) ∧ GotN w m e w'
def RootR (w : World) (to : Option Addr) (tc : Nat) (tz : List Nat) (a L : Nat) (k : Nat) (x : Value) (wr : World) : Prop :=
  Rd wr to tc tz ∧ ∃ (ao : Option Addr) (c : Nat) (zs : List Nat), x = .slice ao zs.length c ∧ Own wr w.heap.size ao c zs ∧ Canon zs ∧ zs.length ≤ L ∧ Ext w wr ∧ Hid (0 < val zs ∧ a < (val zs + 1) * (val zs + 1)) ∧ Hid (k = val zs)

set_option maxHeartbeats 2000000 in
theorem Root_any (ao : Option Addr) (n c : Nat) (xs : List Nat) (w : World) (hn : n = xs.length) (ha : Rd w ao c xs) (hl : xs.length ≤ 10000) :
    Calls Try.prog 48 #[.slice ao n c] w (GotR w (val xs)) := by
  subst hn
  have hnb := nb_le_len ha.lb (Nat.le_refl xs.length)
  go_enter Try.func48, Try.ntmps48
  go_wp2_with fail
  refine (Trim_got _ _ _ xs _ rfl ha (by omega)).mono ?_
  rintro e w1 ⟨to, tc, tz, rfl, t1, t2, t3, t4⟩
  have lt : tz.length ≤ xs.length := canon_len t2 (by rw [t3]; exact val_lt_pw ha.lb (Nat.le_refl _))
  obtain ⟨a, ha'⟩ : ∃ a, a = val xs := ⟨_, rfl⟩
  rw [← ha'] at t3 hnb
  replace ha' := Lib.hid ha'
  replace t3 := Lib.hid t3
  rcases Nat.eq_zero_or_pos tz.length with h0 | hp
  · have e0 : tz = [] := List.length_eq_zero_iff.1 h0
    subst e0
    clear h0
    have hv : val xs = 0 := by rw [← ha'.out, ← t3.out]; rfl
    have Hv := Lib.hid hv
    clear hv
    go_wp2_with fail
    go_ret
    exact ⟨0, by omega, by rw [Hv.out]; decide, none, 0, [], rfl, Own.nil _ _, canon_nil, rfl, t4⟩
  · have hd : ((tz.length : Int) == 0) = false := beq_eq_false_iff_ne.2 (by omega)
    have hne : Hid (a ≠ 0) := fun e => by
      have : tz = [] := canon_zero t2 (by rw [t3.out]; exact e)
      rw [this] at hp; exact absurd hp (by decide)
    go_wp2_with fail
    refine (Of_any 1 (by omega) (by omega) _).mono ?_
    rintro e w2 ⟨oo, oc, oz, rfl, o1, o2, o3, o4⟩
    replace o3 := Lib.hid o3
    have lo : oz.length ≤ 4 := canon_small o2 o3.out (by decide)
    go_wp2_with fail
    refine (Bits_any _ _ _ tz _ rfl (t1.rd.ext o4) (by omega)).mono ?_
    rintro e w' ⟨rfl, rfl⟩
    rw [t3.out]
    go_wp2_with fail
    refine (Left_any _ _ _ oz _ ((nb a + 1) / 2) _ rfl (by omega) o1.rd (by omega) (by omega)).mono ?_
    rintro e w3 ⟨po, pc, pz, rfl, p1, p2, p3, p4⟩
    have hv : val pz = 2 ^ ((nb a + 1) / 2) := by rw [p3, o3.out]; exact Nat.one_mul _
    have hpos : 0 < val pz ∧ a < (val pz + 1) * (val pz + 1) := by rw [hv]; exact ⟨Nat.two_pow_pos _, root_start a⟩
    have lp : pz.length ≤ xs.length + 2 := canon_len p2 (by
      rw [hv, pw_two]; exact Nat.pow_lt_pow_right (by omega) (by omega))
    have Hpos := Lib.hid hpos
    clear hv hpos p3
    go_wp2_with fail
    go_loopg [3] (val pz) (RootR w to tc tz a (xs.length + 2))
    case atStart => exact ⟨t1.rd.ext (o4.trans p4), po, pc, pz, rfl, p1.mono (t4.trans o4).size, p2, lp, (t4.trans o4).trans p4, Hpos, rfl⟩
    case round =>
      obtain ⟨tr, zo, zc, zs, rfl, oz1, cz, lz, hext, hg, hk⟩ := hrel
      have hxp : 0 < val zs := hg.out.1
      have Hx := Lib.hid hxp
      clear hxp
      go_wp2_with fail
      refine (Div_pos _ _ _ tz _ _ _ zs _ rfl rfl tr oz1.rd (by omega) (Nat.ne_of_gt Hx.out)).mono ?_
      rintro e w4 ⟨qo, qc, qz, ro, rc, rz, rfl, q1, q2, q3, q4, q5, q6, q7⟩
      have lq : qz.length ≤ xs.length := canon_len q2 (by
        rw [q3, t3.out]; exact Nat.lt_of_le_of_lt (Nat.div_le_self _ _) (by rw [ha'.out]; exact val_lt_pw ha.lb (Nat.le_refl _)))
      replace q3 := Lib.hid q3
      clear q6
      go_wp2_with fail
      refine (Add_any _ _ _ zs _ _ _ qz _ rfl rfl (oz1.rd.ext q7) q1.rd (by omega) (by omega)).mono ?_
      rintro e w5 ⟨so, sc, sz, rfl, s1, s2, s3, s4⟩
      have lsz : sz.length ≤ xs.length + 3 := canon_len s2 (by
        rw [s3]; exact add_lt_pw cz.1 q2.1 lz (by omega))
      replace s3 := Lib.hid s3
      go_wp2_with fail
      refine (Right_any _ _ _ sz _ 1 _ rfl rfl (by omega) s1.rd (by omega)).mono ?_
      rintro e w6 ⟨no, nc, nz, rfl, n1, n2, n3, n4⟩
      have hn : val nz = (val zs + a / val zs) / 2 := by rw [n3, s3.out, q3.out, t3.out, Nat.pow_one]
      have hE := hext.trans (q7.trans (s4.trans n4))
      by_cases hlt : val nz < val zs
      · have hup : a < (val nz + 1) * (val nz + 1) := by rw [hn]; exact root_up Hx.out
        have hnp : 0 < val nz := by
          rcases Nat.eq_zero_or_pos (val nz) with h0 | h0
          · rw [h0] at hup; exact absurd (show a < 1 by omega) (by have := hne.out; omega)
          · exact h0
        have Hup := Lib.hid (show 0 < val nz ∧ a < (val nz + 1) * (val nz + 1) from ⟨hnp, hup⟩)
        have lnz : nz.length ≤ xs.length + 2 := canon_len n2 (Nat.lt_trans hlt (val_lt_pw cz.1 lz))
        have Hlt := Lib.hid hlt
        clear hn hup hnp n3 hlt
        go_wp2_with fail
        refine (Cmp_lt _ _ _ nz _ _ _ zs _ rfl rfl n1.rd (oz1.rd.ext (q7.trans (s4.trans n4))) Hlt.out).mono ?_
        rintro e w7 ⟨rfl, hq⟩
        go_wp2_with fail
        go_roundg (val nz)
        case rel => exact ⟨(tr.ext (q7.trans (s4.trans n4))).ext hq.ext, no, nc, nz, rfl, (n1.ext hq.ext).mono (hext.trans (q7.trans s4)).size, n2, lnz, hE.trans hq.ext, Hup, rfl⟩
        case measure => have h1 := hk.out; have h2 := Hlt.out; omega
      · have hend : val zs * val zs ≤ a := root_end (by rw [← hn]; omega)
        have Hend := Lib.hid (show val zs * val zs ≤ val xs ∧ val xs < (val zs + 1) * (val zs + 1) by rw [← ha'.out]; exact ⟨hend, hg.out.2⟩)
        have hc : 0 ≤ cmpI (val nz) (val zs) := by unfold cmpI; rw [if_neg hlt]; split <;> omega
        obtain ⟨cc, hcc⟩ : ∃ cc, cc = cmpI (val nz) (val zs) := ⟨_, rfl⟩
        rw [← hcc] at hc
        have Hcc := Lib.hid hcc
        clear hn hend n3 hlt hcc
        go_wp2_with fail
        refine (Cmp_any _ _ _ nz _ _ _ zs _ rfl rfl n1.rd (oz1.rd.ext (q7.trans (s4.trans n4)))).mono ?_
        rintro e w7 ⟨rfl, hq⟩
        rw [← Hcc.out]
        go_wp2_with fail
        go_ret
        exact ⟨val zs, Hend.out.1, Hend.out.2, zo, zc, zs, rfl, oz1.ext ((q7.trans (s4.trans n4)).trans hq.ext), cz, rfl, hE.trans hq.ext⟩
end Go.Proofs.Ytejgefhmagamiaa
