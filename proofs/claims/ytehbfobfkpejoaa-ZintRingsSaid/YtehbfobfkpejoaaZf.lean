/-
  Plain laws of signs, comparisons and divisions.
-/
import Derived.Test.YtehbfobfkpejoaaZe
namespace Go.Proofs.Ytehbfobfkpejoaa.S
open Go.RowKit

theorem cmpZ_self {a b : Int} (h : a = b) : cmpZ a b = 0 := by subst h; unfold cmpZ; rw [if_neg (by omega), if_neg (by omega)]
theorem cmpZ_less {a b : Int} (h : a < b) : cmpZ a b = -1 := by unfold cmpZ; rw [if_pos h]
theorem cmpZ_more {a b : Int} (h : b < a) : cmpZ a b = 1 := by unfold cmpZ; rw [if_neg (by omega), if_pos h]
theorem cmpZ_range (a b : Int) : -1 ≤ cmpZ a b ∧ cmpZ a b ≤ 1 := by unfold cmpZ; split <;> (try split) <;> omega
theorem sgn_mul (a b : Int) : sgn (a * b) = sgn a * sgn b := by
  rcases Int.lt_trichotomy a 0 with h | h | h <;> rcases Int.lt_trichotomy b 0 with k | k | k
  · rw [sgn_neg h, sgn_neg k, sgn_pos (Int.mul_pos_of_neg_of_neg h k)]; rfl
  · subst k; simp [sgn]
  · rw [sgn_neg h, sgn_pos k, sgn_neg (Int.mul_neg_of_neg_of_pos h k)]; rfl
  · subst h; simp [sgn]
  · subst h; simp [sgn]
  · subst h; simp [sgn]
  · rw [sgn_pos h, sgn_neg k, sgn_neg (Int.mul_neg_of_pos_of_neg h k)]; rfl
  · subst k; simp [sgn]
  · rw [sgn_pos h, sgn_pos k, sgn_pos (Int.mul_pos h k)]; rfl
theorem cmpZ_sub (a b : Int) : cmpZ a b = sgn (a - b) := by unfold cmpZ sgn; split <;> (try split) <;> (try split) <;> (try split) <;> omega
theorem sgn_fmod {X Y : Int} (hY : Y ≠ 0) (h : X.fmod Y ≠ 0) : sgn (X.fmod Y) = sgn Y := by
  obtain ⟨h1, h2⟩ := fmod_range X hY
  rcases Int.lt_or_lt_of_ne hY with g | g
  · have := h2 g; rw [sgn_neg g, sgn_neg (by omega)]
  · have := h1 g; rw [sgn_pos g, sgn_pos (by omega)]
theorem hat_multiple {X Y : Int} : (X - hatZ X Y).fmod Y = 0 := by
  have e : X - hatZ X Y = Y * ((X * 2 + Y).fdiv (Y * 2)) := by unfold hatZ; omega
  rw [e]; exact Int.mul_fmod_right _ _
theorem hat_near {X Y : Int} (h : 0 < Y) : hatZ X Y * 2 < Y ∧ -Y ≤ hatZ X Y * 2 := by
  rw [hat_ref h]
  have := (fmod_range X (by omega : Y ≠ 0)).1 h
  split <;> omega
theorem sgn_ne {z : Int} (h : z ≠ 0) : (sgn z == 0) = false := beq_false_of_ne (fun e => h (sgn_eq0.1 e))
theorem sgn_ne' {z : Int} (h : z ≠ 0) : (sgn z != 0) = true := by rw [bne, sgn_ne h]; rfl
theorem fdiv_zero' (X : Int) : X.fdiv 0 = 0 := Int.fdiv_zero X
theorem gcd_fmod_l (a b : Int) : a.fmod (Nat.gcd a.natAbs b.natAbs : Int) = 0 := Int.fmod_eq_zero_of_dvd (Int.ofNat_dvd_left.2 (Nat.gcd_dvd_left _ _))
theorem gcd_fmod_r (a b : Int) : b.fmod (Nat.gcd a.natAbs b.natAbs : Int) = 0 := Int.fmod_eq_zero_of_dvd (Int.ofNat_dvd_left.2 (Nat.gcd_dvd_right _ _))
theorem lcm_gcd (a b : Int) : (Nat.lcm a.natAbs b.natAbs : Int) * (Nat.gcd a.natAbs b.natAbs : Int) = ((a * b).natAbs : Int) := by
  rw [← Int.natCast_mul, Int.natAbs_mul, Nat.mul_comm, Nat.gcd_mul_lcm]
end Go.Proofs.Ytehbfobfkpejoaa.S
