/-
  Contracts of nat.Pow and nat.Root.
-/
import Derived.Test.YtejgefhmagamiaaRefE
import Derived.Test.YtejgefhmagamiaaMulC
namespace Go.Proofs.Ytejgefhmagamiaa
open Go.RowKit

theorem pow_sq (s k : Nat) : (s * s) ^ k = s ^ (2 * k) := by rw [← Nat.pow_two, ← Nat.pow_mul]
theorem pow_round {o s k T : Nat} (h : o * s ^ k = T) (hT : T ≠ 0) (hk : 0 < k) :
    o ≤ T ∧ s ≤ T ∧ (k % 2 = 1 → o * s * (s * s) ^ (k / 2) = T ∧ o * s ≤ T) ∧ (k % 2 = 0 → o * (s * s) ^ (k / 2) = T) ∧ (0 < k / 2 → s * s ≤ T) := by
  subst h
  have ho : 0 < o := Nat.pos_of_ne_zero fun e => hT (by rw [e, Nat.zero_mul])
  have hs : 0 < s := Nat.pos_of_ne_zero fun e => hT (by rw [e, Nat.zero_pow hk, Nat.mul_zero])
  have hsk : 0 < s ^ k := Nat.pow_pos hs
  have h1 : s ^ 1 ≤ s ^ k := Nat.pow_le_pow_right hs hk
  rw [Nat.pow_one] at h1
  refine ⟨Nat.le_mul_of_pos_right _ hsk, Nat.le_trans h1 (Nat.le_mul_of_pos_left _ ho), fun hm => ?_, fun hm => ?_, fun hd => ?_⟩
  · have e : s ^ k = s * s ^ (2 * (k / 2)) := by
      rw [← Nat.pow_succ']; congr 1; omega
    refine ⟨by rw [pow_sq, Nat.mul_assoc, e], Nat.mul_le_mul_left _ h1⟩
  · have e : 2 * (k / 2) = k := by omega
    rw [pow_sq, e]
  · have h2 : s ^ 2 ≤ s ^ k := Nat.pow_le_pow_right hs (by omega)
    rw [Nat.pow_two] at h2
    exact Nat.le_trans h2 (Nat.le_mul_of_pos_left _ ho)

def PowR (w : World) (T M : Nat) (n out sq : Value) (wr : World) : Prop :=
  ∃ (k : Nat) (oo : Option Addr) (oc : Nat) (oz : List Nat) (so : Option Addr) (sc : Nat) (sz : List Nat), k ≤ 1048576 ∧ n = .int .i64 k ∧ out = .slice oo oz.length oc ∧ sq = .slice so sz.length sc ∧
    Own wr w.heap.size oo oc oz ∧ Canon oz ∧ Rd wr so sc sz ∧ oz.length ≤ M ∧ (0 < k → sz.length ≤ M) ∧ Ext w wr ∧ Hid (val oz * val sz ^ k = T)

theorem and_one (k : Nat) (h : k ≤ 1048576) : bits .and .i64 (k : Int) 1 = ((k % 2 : Nat) : Int) := by
  have := and_i64_mask k 1 1 (by omega) (by omega) rfl
  simpa using this

set_option maxHeartbeats 4000000 in
theorem Pow_loop (ao : Option Addr) (n c : Nat) (xs : List Nat) (K M : Nat) (w : World) (hn : n = xs.length) (ha : Rd w ao c xs) (hl : xs.length ≤ 100000)
    (hd1 : decide (0 < (nb (val xs) : Int) ∧ 1048576 / (nb (val xs) : Int) < (K : Int)) = false) (hd2 : 0 < nb (val xs) ∨ K = 0)
    (hK : K ≤ 1048576) (hT : val xs ^ K ≠ 0) (hB : val xs ^ K < pw M) (hM1 : 4 ≤ M) (hM2 : M ≤ 40000) :
    Calls Try.prog 46 #[.slice ao n c, .int .i64 K] w (GotE w (val xs ^ K) 0) := by
  subst hn
  obtain ⟨b, hb⟩ : ∃ b, b = nb (val xs) := ⟨_, rfl⟩
  rw [← hb] at hd1 hd2
  have hnb := nb_le_len ha.lb (Nat.le_refl xs.length)
  obtain ⟨T, hTe⟩ : ∃ T, T = val xs ^ K := ⟨_, rfl⟩
  have Hb := Lib.hid hb
  rw [← hTe] at hT hB ⊢
  have HT := Lib.hid hT
  have HB := Lib.hid hB
  have HTe := Lib.hid hTe
  have hK0 : ¬ (K : Int) < 0 := by omega
  have hd1' : ¬ (0 < b ∧ 1048576 / (b : Int) < (K : Int)) := by
    have := of_decide_eq_false hd1
    intro h; exact this ⟨by omega, h.2⟩
  clear hb hT hB hTe hd1
  have fin : ∀ w1 : World, Ext w w1 → True := fun _ _ => trivial
  clear fin
  have hcase : (b = 0 ∧ K = 0) ∨ (0 < b ∧ ¬ 1048576 / (b : Int) < (K : Int)) := by
    rcases Nat.eq_zero_or_pos b with h0 | h0
    · left; omega
    · right; exact ⟨h0, fun h => hd1' ⟨h0, h⟩⟩
  clear hd1' hd2
  rcases hcase with ⟨h0, h1⟩ | ⟨h0, h1⟩
  all_goals
    first
      | (have hq4 : decide (0 < K) = false := decide_eq_false (by omega); clear h1; subst h0)
      | (have hq1 : decide (1048576 / (b : Int) < (K : Int)) = false := decide_eq_false h1; have hq2 : decide (0 < b) = true := decide_eq_true h0; have hq3 : ((b : Int) == 0) = false := beq_eq_false_iff_ne.2 (by omega))
    go_enter Try.func46, Try.ntmps46
    go_wp2_with fail
    refine (Bits_any _ _ _ xs _ rfl ha (by omega)).mono ?_
    rintro e w' ⟨rfl, rfl⟩
    rw [← Hb.out]
    go_wp2_with fail
    refine (Of_any 1 (by omega) (by omega) _).mono ?_
    rintro e w1 ⟨oo, oc, oz, rfl, o1, o2, o3, o4⟩
    replace o3 := Lib.hid o3
    have lo : oz.length ≤ 4 := canon_small o2 o3.out (by decide)
    go_wp2_with fail
    refine (Trim_got _ _ _ xs _ rfl (ha.ext o4) (by omega)).mono ?_
    rintro e w2 ⟨so, sc, sz, rfl, s1, s2, s3, s4⟩
    replace s3 := Lib.hid s3
    have hk1 : 0 < K → sz.length ≤ M := fun hp => canon_len s2 (by
      rw [s3.out]
      refine Nat.lt_of_le_of_lt ?_ HB.out
      have h2 := (pow_round (o := 1) (s := val xs) (k := K) (T := T) (by rw [Nat.one_mul]; exact HTe.out.symm) HT.out hp).2.1
      exact h2)
    have hv0 : Hid (val oz * val sz ^ K = T) := by unfold Hid; rw [o3.out, s3.out, HTe.out]; exact Nat.one_mul _
    have HK1 := Lib.hid hk1
    clear hk1
    go_wp2_with fail
    go_loopw [1, 7, 8] (PowR w T M) (fun n _ _ _ => (intOf n).toNat)
    case atStart => exact ⟨K, oo, oc, oz, so, sc, sz, hK, rfl, rfl, rfl, o1.ext s4, o2, s1.rd, by omega, HK1.out, o4.trans s4, hv0⟩
    case round =>
      obtain ⟨k, oo, oc, oz, so, sc, sz, hk, rfl, rfl, rfl, ow, ok, sr, lo, ls, hext, hv⟩ := hrel
      rcases Nat.eq_zero_or_pos k with hk0 | hk0
      · subst hk0
        have hfin : val oz = T := by have := hv.out; rwa [Nat.pow_zero, Nat.mul_one] at this
        have Hfin := Lib.hid hfin
        clear hfin hv
        go_wp2_with fail
        go_ret2
        exact ⟨oo, oc, oz, rfl, ow, ok, Hfin.out, hext⟩
      · have hls := ls hk0
        have hnd := and_one k hk
        obtain ⟨p1, p2, p3, p4, p5⟩ := pow_round hv.out HT.out hk0
        have P5 := Lib.hid p5
        have P3 := Lib.hid p3
        have P4 := Lib.hid p4
        have hk01 : (0 : Int) < (k : Int) := by omega
        clear hv p1 p2 p3 p4 p5 ls
        rcases Nat.mod_two_eq_zero_or_one k with hm | hm
        · have hm1 : (((k % 2 : Nat) : Int) == 1) = false := beq_eq_false_iff_ne.2 (by omega)
          have hv2 := Lib.hid (P4.out hm)
          rcases Nat.eq_zero_or_pos (k / 2) with hh | hh
          · omega
          · have hh1 : (0 : Int) < (k : Int) / 2 := by omega
            have hsq := Lib.hid (P5.out hh)
            clear hm
            go_wp2_with fail
            refine (Mul_any _ _ _ sz _ _ _ sz _ rfl rfl sr sr (by omega) (by omega)).mono ?_
            rintro e w3 ⟨to, tc, tz, rfl, t1, t2, t3, t4⟩
            have lt : tz.length ≤ M := canon_len t2 (by rw [t3]; exact Nat.lt_of_le_of_lt hsq.out HB.out)
            replace t3 := Lib.hid t3
            go_wp2_with fail
            go_roundw
            case rel => exact ⟨k / 2, oo, oc, oz, to, tc, tz, by omega, by simp, rfl, rfl, ow.ext t4, ok, t1.rd, lo, fun _ => lt, hext.trans t4, by unfold Hid; rw [t3.out]; exact hv2.out⟩
            case measure => simp [intOf]; try omega
        · have hm1 : (((k % 2 : Nat) : Int) == 1) = true := beq_iff_eq.2 (by omega)
          have hv2 := Lib.hid (P3.out hm)
          rcases Nat.eq_zero_or_pos (k / 2) with hh | hh
          · have hh1 : ¬ (0 : Int) < (k : Int) / 2 := by omega
            have hk3 : k = 1 := by omega
            have Hh := Lib.hid hh
            clear hm hk3 hh
            go_wp2_with fail
            refine (Mul_any _ _ _ oz _ _ _ sz _ rfl rfl ow.rd sr (by omega) (by omega)).mono ?_
            rintro e w3 ⟨to, tc, tz, rfl, t1, t2, t3, t4⟩
            have lt : tz.length ≤ M := canon_len t2 (by rw [t3]; exact Nat.lt_of_le_of_lt hv2.out.2 HB.out)
            replace t3 := Lib.hid t3
            go_wp2_with fail
            go_roundw
            case rel => exact ⟨k / 2, to, tc, tz, so, sc, sz, by omega, by simp, rfl, rfl, t1.mono hext.size, t2, sr.ext t4, lt, fun h => by have := Hh.out; omega, hext.trans t4, by unfold Hid; rw [t3.out, ← hv2.out.1, Hh.out, Nat.pow_zero, Nat.pow_zero]⟩
            case measure => simp [intOf]; try omega
          · have hh1 : (0 : Int) < (k : Int) / 2 := by omega
            have hsq := Lib.hid (P5.out hh)
            clear hm
            go_wp2_with fail
            refine (Mul_any _ _ _ oz _ _ _ sz _ rfl rfl ow.rd sr (by omega) (by omega)).mono ?_
            rintro e w3 ⟨uo, uc, uz, rfl, u1, u2, u3, u4⟩
            have lu : uz.length ≤ M := canon_len u2 (by rw [u3]; exact Nat.lt_of_le_of_lt hv2.out.2 HB.out)
            replace u3 := Lib.hid u3
            go_wp2_with fail
            refine (Mul_any _ _ _ sz _ _ _ sz _ rfl rfl (sr.ext u4) (sr.ext u4) (by omega) (by omega)).mono ?_
            rintro e w4 ⟨to, tc, tz, rfl, t1, t2, t3, t4⟩
            have lt : tz.length ≤ M := canon_len t2 (by rw [t3]; exact Nat.lt_of_le_of_lt hsq.out HB.out)
            replace t3 := Lib.hid t3
            go_wp2_with fail
            go_roundw
            case rel => exact ⟨k / 2, uo, uc, uz, to, tc, tz, by omega, by simp, rfl, rfl, (u1.mono hext.size).ext t4, u2, t1.rd, lu, fun _ => lt, hext.trans (u4.trans t4), by unfold Hid; rw [t3.out, u3.out]; exact hv2.out.1⟩
            case measure => simp [intOf]; try omega
end Go.Proofs.Ytejgefhmagamiaa
