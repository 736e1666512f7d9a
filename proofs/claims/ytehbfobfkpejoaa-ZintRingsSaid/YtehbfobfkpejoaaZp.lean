/-
  Quotients rounded down, in plain numbers.
-/
import Derived.Test.YtehbfobfkpejoaaSigI
namespace Go.Proofs.Ytehbfobfkpejoaa.S
open Go.RowKit

theorem ZI.val_abs (x : ZI) : Go.Proofs.Ytehbfobfkpejoaa.val x.abs = x.val.natAbs := (iv_abs x.neg x.abs).symm
theorem fmod_neg_range (a : Int) {b : Int} (h : b < 0) : b < a.fmod b ∧ a.fmod b ≤ 0 := by
  have h1 := Int.fmod_lt_of_pos (-a) (b := -b) (by omega)
  have h2 := Int.fmod_nonneg_of_pos (-a) (b := -b) (by omega)
  rw [Int.neg_fmod_neg] at h1 h2
  omega
theorem fdiv_unique {a b q r : Int} (h : a = q * b + r) (hp : 0 < b → 0 ≤ r ∧ r < b) (hn : b < 0 → b < r ∧ r ≤ 0) (hb : b ≠ 0) : q = a.fdiv b ∧ r = a.fmod b := by
  have h1 := Int.mul_fdiv_add_fmod a b
  rcases Int.lt_or_lt_of_ne hb with hlt | hgt
  · obtain ⟨h2, h3⟩ := hn hlt
    obtain ⟨h4, h5⟩ := fmod_neg_range a hlt
    have hq : q = a.fdiv b := by
      have e : b * (a.fdiv b - q) = r - a.fmod b := by
        have : b * (a.fdiv b - q) = b * a.fdiv b - q * b := by rw [Int.mul_sub, Int.mul_comm b q]
        omega
      rcases Int.lt_trichotomy (a.fdiv b - q) 0 with g | g | g
      · have : b * (a.fdiv b - q) ≥ -b := by
          have h6 : (-b) * 1 ≤ (-b) * (-(a.fdiv b - q)) := Int.mul_le_mul_of_nonneg_left (by omega) (by omega)
          rw [Int.neg_mul_neg] at h6; omega
        omega
      · omega
      · have : b * (a.fdiv b - q) ≤ b := by
          have h6 : (-b) * 1 ≤ (-b) * (a.fdiv b - q) := Int.mul_le_mul_of_nonneg_left (by omega) (by omega)
          rw [Int.neg_mul b (a.fdiv b - q)] at h6; omega
        omega
    refine ⟨hq, ?_⟩
    rw [hq, Int.mul_comm] at h
    omega
  · obtain ⟨h2, h3⟩ := hp hgt
    have h4 : a.fmod b < b := Int.fmod_lt_of_pos a hgt
    have h5 : 0 ≤ a.fmod b := Int.fmod_nonneg_of_pos a hgt
    have hq : q = a.fdiv b := by
      have e : b * (a.fdiv b - q) = r - a.fmod b := by
        have : b * (a.fdiv b - q) = b * a.fdiv b - q * b := by rw [Int.mul_sub, Int.mul_comm b q]
        omega
      rcases Int.lt_trichotomy (a.fdiv b - q) 0 with g | g | g
      · have h6 : b * 1 ≤ b * (-(a.fdiv b - q)) := Int.mul_le_mul_of_nonneg_left (by omega) (by omega)
        rw [Int.mul_neg] at h6; omega
      · omega
      · have h6 : b * 1 ≤ b * (a.fdiv b - q) := Int.mul_le_mul_of_nonneg_left (by omega) (by omega)
        omega
    refine ⟨hq, ?_⟩
    rw [hq, Int.mul_comm] at h
    omega
theorem fmod_range (a : Int) {b : Int} (_hb : b ≠ 0) : (0 < b → 0 ≤ a.fmod b ∧ a.fmod b < b) ∧ (b < 0 → b < a.fmod b ∧ a.fmod b ≤ 0) :=
  ⟨fun h => ⟨Int.fmod_nonneg_of_pos a h, Int.fmod_lt_of_pos a h⟩, fun h => fmod_neg_range a h⟩
theorem fdiv_fmod (a b : Int) : a = a.fdiv b * b + a.fmod b := by have := Int.mul_fdiv_add_fmod a b; rw [Int.mul_comm] at this; exact this.symm
/-- the quotient of two numbers out of that of their absolute values -/
theorem fdiv_same {X Y : Int} (hY : Y ≠ 0) {s t : Bool} (hs : s = decide (X < 0)) (ht : t = decide (Y < 0)) {zq zr : List Nat} (hq : Go.Proofs.Ytehbfobfkpejoaa.val zq = X.natAbs / Y.natAbs) (hr : Go.Proofs.Ytehbfobfkpejoaa.val zr = X.natAbs % Y.natAbs) (h : (s != t) = true → Go.Proofs.Ytehbfobfkpejoaa.val zr = 0) :
    iv (s != t) zq = X.fdiv Y ∧ iv s zr = X.fmod Y := by
  have hm := Nat.mod_lt X.natAbs (Nat.pos_of_ne_zero (by omega : Y.natAbs ≠ 0))
  have hd := Nat.div_add_mod X.natAbs Y.natAbs
  generalize X.natAbs / Y.natAbs = q at *
  generalize X.natAbs % Y.natAbs = r at *
  subst hs ht
  refine fdiv_unique ?_ ?_ ?_ hY
  · unfold iv
    rw [hq, hr]
    have hd2 : ((Y.natAbs : Int) * (q : Int) + (r : Int)) = (X.natAbs : Int) := by rw [← hd]; simp
    by_cases h1 : X < 0 <;> by_cases h2 : Y < 0
    · have e1 : (X.natAbs : Int) = -X := by omega
      have e2 : (Y.natAbs : Int) = -Y := by omega
      rw [e1, e2, Int.neg_mul] at hd2
      simp [h1, h2]
      rw [Int.mul_comm]; omega
    · have e1 : (X.natAbs : Int) = -X := by omega
      have e2 : (Y.natAbs : Int) = Y := by omega
      rw [e1, e2] at hd2
      simp [h1, h2]
      rw [Int.neg_mul, Int.mul_comm]; omega
    · have e1 : (X.natAbs : Int) = X := by omega
      have e2 : (Y.natAbs : Int) = -Y := by omega
      rw [e1, e2, Int.neg_mul] at hd2
      simp [h1, h2]
      rw [Int.neg_mul, Int.mul_comm]; omega
    · have e1 : (X.natAbs : Int) = X := by omega
      have e2 : (Y.natAbs : Int) = Y := by omega
      rw [e1, e2] at hd2
      simp [h1, h2]
      rw [Int.mul_comm]; omega
  · intro hp
    unfold iv
    have h2 : ¬ Y < 0 := by omega
    by_cases h1 : X < 0
    · have := h (by simp [h1, h2])
      simp [h1, this]; omega
    · simp [h1, hr]; omega
  · intro hp
    unfold iv
    by_cases h1 : X < 0
    · simp [h1, hr]; omega
    · have := h (by simp [h1, hp])
      simp [h1, this]; omega
theorem fdiv_other {X Y : Int} (hY : Y ≠ 0) {s t : Bool} (hs : s = decide (X < 0)) (ht : t = decide (Y < 0)) {zq zr : List Nat} (hq : Go.Proofs.Ytehbfobfkpejoaa.val zq = X.natAbs / Y.natAbs) (hr : Go.Proofs.Ytehbfobfkpejoaa.val zr = X.natAbs % Y.natAbs) (h : (s != t) = true) (h0 : Go.Proofs.Ytehbfobfkpejoaa.val zr ≠ 0) :
    iv (s != t) zq - 1 = X.fdiv Y ∧ iv s zr + Y = X.fmod Y := by
  have hm := Nat.mod_lt X.natAbs (Nat.pos_of_ne_zero (by omega : Y.natAbs ≠ 0))
  have hd := Nat.div_add_mod X.natAbs Y.natAbs
  generalize X.natAbs / Y.natAbs = q at *
  generalize X.natAbs % Y.natAbs = r at *
  subst hs ht
  rw [hr] at h0
  have hd2 : ((Y.natAbs : Int) * (q : Int) + (r : Int)) = (X.natAbs : Int) := by rw [← hd]; simp
  rw [h]
  refine fdiv_unique ?_ ?_ ?_ hY
  · unfold iv
    rw [hq, hr]
    by_cases h1 : X < 0 <;> by_cases h2 : Y < 0
    · simp [h1, h2] at h
    · have e1 : (X.natAbs : Int) = -X := by omega
      have e2 : (Y.natAbs : Int) = Y := by omega
      rw [e1, e2] at hd2
      simp [h1]
      rw [Int.sub_mul, Int.neg_mul, Int.mul_comm]; omega
    · have e1 : (X.natAbs : Int) = X := by omega
      have e2 : (Y.natAbs : Int) = -Y := by omega
      rw [e1, e2, Int.neg_mul] at hd2
      simp [h1]
      rw [Int.sub_mul, Int.neg_mul, Int.mul_comm]; omega
    · simp [h1, h2] at h
  · intro hp
    unfold iv
    have h2 : ¬ Y < 0 := by omega
    by_cases h1 : X < 0
    · simp [h1, hr]; omega
    · simp [h1, h2] at h
  · intro hp
    unfold iv
    by_cases h1 : X < 0
    · simp [h1, hp] at h
    · simp [h1, hr]; omega
theorem val_zero {zs : List Nat} (h : Canon zs) : Go.Proofs.Ytehbfobfkpejoaa.val zs = 0 ↔ zs.length = 0 :=
  ⟨fun e => by rw [canon_zero h e]; rfl, fun e => by rw [List.length_eq_zero_iff.1 e]; rfl⟩
theorem fdiv_natAbs_le (X : Int) {Y : Int} (hY : Y ≠ 0) : (X.fdiv Y).natAbs ≤ X.natAbs := by
  have h := fdiv_fmod X Y
  obtain ⟨h1, h2⟩ := fmod_range X hY
  rcases Int.lt_or_lt_of_ne hY with g | g
  · obtain ⟨h3, h4⟩ := h2 g
    by_cases hq : 0 ≤ X.fdiv Y
    · have : X.fdiv Y * Y ≤ X.fdiv Y * (-1) := Int.mul_le_mul_of_nonneg_left (by omega) hq
      omega
    · have : (-X.fdiv Y - 1) * 1 ≤ (-X.fdiv Y - 1) * (-Y) := Int.mul_le_mul_of_nonneg_left (by omega) (by omega)
      have e : (-X.fdiv Y - 1) * (-Y) = X.fdiv Y * Y + Y := by rw [Int.sub_mul, Int.neg_mul_neg]; omega
      omega
  · obtain ⟨h3, h4⟩ := h1 g
    by_cases hq : 0 ≤ X.fdiv Y
    · have : X.fdiv Y * 1 ≤ X.fdiv Y * Y := Int.mul_le_mul_of_nonneg_left (by omega) hq
      omega
    · have : (-X.fdiv Y - 1) * 1 ≤ (-X.fdiv Y - 1) * Y := Int.mul_le_mul_of_nonneg_left (by omega) (by omega)
      have e : (-X.fdiv Y - 1) * Y = -(X.fdiv Y * Y) - Y := by rw [Int.sub_mul, Int.neg_mul]; omega
      omega
theorem fmod_natAbs_lt (X : Int) {Y : Int} (hY : Y ≠ 0) : (X.fmod Y).natAbs < Y.natAbs := by
  obtain ⟨h1, h2⟩ := fmod_range X hY
  rcases Int.lt_or_lt_of_ne hY with g | g
  · have := h2 g; omega
  · have := h1 g; omega
theorem len_fdiv {x y : ZI} (hx : Lb x.abs) (h : y.val ≠ 0) : (ZI.of (x.val.fdiv y.val)).abs.length ≤ x.abs.length := ZI.len_of (Nat.lt_of_le_of_lt (fdiv_natAbs_le _ h) (ZI.abs_lt hx))
theorem len_fmod {x y : ZI} (hy : Lb y.abs) (h : y.val ≠ 0) : (ZI.of (x.val.fmod y.val)).abs.length ≤ y.abs.length := ZI.len_of (Nat.lt_trans (fmod_natAbs_lt _ h) (ZI.abs_lt hy))
end Go.Proofs.Ytehbfobfkpejoaa.S
