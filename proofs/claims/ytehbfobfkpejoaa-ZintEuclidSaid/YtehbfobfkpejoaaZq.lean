/-
  Quotients rounded towards 0 and up, the nearest multiple, Euclid's numbers, in plain numbers.
-/
import Derived.Test.YtehbfobfkpejoaaZp
namespace Go.Proofs.Ytehbfobfkpejoaa.S
open Go.RowKit

theorem sgn_mul_range (X Y : Int) : -1 ≤ sgn X * sgn Y ∧ sgn X * sgn Y ≤ 1 := by
  unfold sgn
  split <;> split <;> first | decide | (split <;> first | decide | (split <;> decide))
theorem sgn_mul_neg (X Y : Int) : sgn X * sgn Y < 0 ↔ (X < 0 ∧ 0 < Y) ∨ (0 < X ∧ Y < 0) := by
  unfold sgn
  by_cases h1 : X < 0 <;> by_cases h2 : Y < 0 <;> by_cases h3 : 0 < X <;> by_cases h4 : 0 < Y <;> simp [h1, h2, h3, h4] <;> omega
theorem tdiv_leaf {X Y : Int} (hY : Y ≠ 0) {b : Bool} (hb : b = decide (sgn X * sgn Y < 0)) {zq : List Nat} (hq : Go.Proofs.Ytehbfobfkpejoaa.val zq = X.natAbs / Y.natAbs) :
    (X - iv b zq * Y).natAbs < Y.natAbs ∧ (0 ≤ X → 0 ≤ X - iv b zq * Y) ∧ (X ≤ 0 → X - iv b zq * Y ≤ 0) := by
  have hm := Nat.mod_lt X.natAbs (Nat.pos_of_ne_zero (by omega : Y.natAbs ≠ 0))
  have hd := Nat.div_add_mod X.natAbs Y.natAbs
  have h0 : X = 0 → X.natAbs / Y.natAbs = 0 := fun h => by rw [h]; simp
  generalize X.natAbs / Y.natAbs = q at *
  generalize X.natAbs % Y.natAbs = r at *
  have hd2 : ((Y.natAbs : Int) * (q : Int) + (r : Int)) = (X.natAbs : Int) := by rw [← hd]; simp
  have hs := sgn_mul_neg X Y
  subst hb
  unfold iv
  rw [hq]
  by_cases h1 : X < 0 <;> by_cases h2 : Y < 0
  · have e1 : (X.natAbs : Int) = -X := by omega
    have e2 : (Y.natAbs : Int) = -Y := by omega
    have hc : ¬ sgn X * sgn Y < 0 := by rw [hs]; omega
    rw [e1, e2, Int.neg_mul, Int.mul_comm] at hd2
    simp [hc]; omega
  · have e1 : (X.natAbs : Int) = -X := by omega
    have e2 : (Y.natAbs : Int) = Y := by omega
    have hc : sgn X * sgn Y < 0 := by rw [hs]; omega
    rw [e1, e2, Int.mul_comm] at hd2
    simp [hc, Int.neg_mul]; omega
  · have e1 : (X.natAbs : Int) = X := by omega
    have e2 : (Y.natAbs : Int) = -Y := by omega
    rw [e1, e2, Int.neg_mul, Int.mul_comm] at hd2
    by_cases h3 : X = 0
    · have := h0 h3
      subst this
      simp at hd2 ⊢; omega
    · have hc : sgn X * sgn Y < 0 := by rw [hs]; omega
      simp [hc, Int.neg_mul]; omega
  · have e1 : (X.natAbs : Int) = X := by omega
    have e2 : (Y.natAbs : Int) = Y := by omega
    have hc : ¬ sgn X * sgn Y < 0 := by rw [hs]; omega
    rw [e1, e2, Int.mul_comm] at hd2
    simp [hc]; omega
theorem rdiv_stay {X Y q : Int} (hY : Y ≠ 0) (h : (X - q * Y).natAbs < Y.natAbs) (hs : ¬ sgn (X - q * Y) * sgn Y < 0) : q = X.fdiv Y ∧ X - q * Y = X.fmod Y := by
  rw [sgn_mul_neg] at hs
  exact fdiv_unique (by omega) (fun _ => by omega) (fun _ => by omega) hY
theorem rdiv_turn {X Y q : Int} (hY : Y ≠ 0) (h : (X - q * Y).natAbs < Y.natAbs) (hs : sgn (X - q * Y) * sgn Y < 0) : q - 1 = X.fdiv Y ∧ X - q * Y + Y = X.fmod Y := by
  rw [sgn_mul_neg] at hs
  have e : (q - 1) * Y = q * Y - Y := by rw [Int.sub_mul]; omega
  exact fdiv_unique (by omega) (fun _ => by omega) (fun _ => by omega) hY
theorem ceil_stay {X Y : Int} (hY : Y ≠ 0) (h : X.fmod Y = 0) : X.fdiv Y = -((-X).fdiv Y) := by
  have h1 := fdiv_fmod X Y
  have e : (-X.fdiv Y) * Y = -(X.fdiv Y * Y) := Int.neg_mul _ _
  have := (fdiv_unique (a := -X) (b := Y) (q := -X.fdiv Y) (r := 0) (by omega) (fun _ => by omega) (fun _ => by omega) hY).1
  omega
theorem ceil_turn {X Y : Int} (hY : Y ≠ 0) (h : X.fmod Y ≠ 0) : X.fdiv Y + 1 = -((-X).fdiv Y) := by
  have h1 := fdiv_fmod X Y
  obtain ⟨h2, h3⟩ := fmod_range X hY
  have e : (-X.fdiv Y - 1) * Y = -(X.fdiv Y * Y) - Y := by rw [Int.sub_mul, Int.neg_mul]; omega
  have := (fdiv_unique (a := -X) (b := Y) (q := -X.fdiv Y - 1) (r := Y - X.fmod Y) (by omega) (fun _ => by omega) (fun _ => by omega) hY).1
  omega
/-- what differs by a multiple of Y, nearest to 0 -/
def hatZ (X Y : Int) : Int := X - Y * ((X * 2 + Y).fdiv (Y * 2))
theorem hat_ref {X Y : Int} (hY : 0 < Y) : hatZ X Y = if Y ≤ X.fmod Y * 2 then X.fmod Y - Y else X.fmod Y := by
  have h1 := fdiv_fmod X Y
  obtain ⟨h2, h3⟩ := (fmod_range X (by omega : Y ≠ 0)).1 hY
  unfold hatZ
  split
  · rename_i h
    have e : (X.fdiv Y + 1) * (Y * 2) = (X.fdiv Y * Y) * 2 + Y * 2 := by rw [Int.add_mul, Int.one_mul, Int.mul_assoc]
    have := (fdiv_unique (a := X * 2 + Y) (b := Y * 2) (q := X.fdiv Y + 1) (r := X.fmod Y * 2 - Y) (by omega) (fun _ => by omega) (fun _ => by omega) (by omega)).1
    rw [← this, Int.mul_add, Int.mul_one, Int.mul_comm Y]; omega
  · rename_i h
    have e : (X.fdiv Y) * (Y * 2) = (X.fdiv Y * Y) * 2 := by rw [Int.mul_assoc]
    have := (fdiv_unique (a := X * 2 + Y) (b := Y * 2) (q := X.fdiv Y) (r := X.fmod Y * 2 + Y) (by omega) (fun _ => by omega) (fun _ => by omega) (by omega)).1
    rw [← this, Int.mul_comm Y]; omega
/-- Euclid's steps -/
def bez (r0 x0 y0 r1 x1 y1 : Int) : Int × Int × Int :=
  if _h : r1 ≤ 0 then (r0, x0, y0) else bez r1 x1 y1 (r0.fmod r1) (x0 - r0.fdiv r1 * x1) (y0 - r0.fdiv r1 * y1)
  termination_by r1.natAbs
  decreasing_by exact fmod_natAbs_lt _ (by omega)
theorem bez_end {r0 x0 y0 r1 x1 y1 : Int} (h : r1 ≤ 0) : bez r0 x0 y0 r1 x1 y1 = (r0, x0, y0) := by rw [bez, dif_pos h]
theorem bez_step {r0 x0 y0 r1 x1 y1 : Int} (h : ¬ r1 ≤ 0) : bez r0 x0 y0 r1 x1 y1 = bez r1 x1 y1 (r0.fmod r1) (x0 - r0.fdiv r1 * x1) (y0 - r0.fdiv r1 * y1) := by rw [bez, dif_neg h]
/-- what holds of Euclid's numbers on the way; A, B: the absolute values -/
structure BzI (A B r0 x0 y0 r1 x1 y1 : Int) : Prop where
  a : 0 ≤ A
  b : 0 ≤ B
  p0 : 0 ≤ r0
  p1 : 0 ≤ r1
  g : Nat.gcd r0.natAbs r1.natAbs = Nat.gcd A.natAbs B.natAbs
  e0 : r0 = A * x0 + B * y0
  e1 : r1 = A * x1 + B * y1
  sx : (0 ≤ x0 ∧ x1 ≤ 0) ∨ (x0 ≤ 0 ∧ 0 ≤ x1)
  sy : (0 ≤ y0 ∧ y1 ≤ 0) ∨ (y0 ≤ 0 ∧ 0 ≤ y1)
  bx : r0 * (x1.natAbs : Int) + r1 * (x0.natAbs : Int) = B
  byy : r0 * (y1.natAbs : Int) + r1 * (y0.natAbs : Int) = A
  lx : (x1.natAbs : Int) ≤ B + 1
  ly : (y1.natAbs : Int) ≤ A + 1
  z : bez r0 x0 y0 r1 x1 y1 = bez A 1 0 B 0 1
theorem BzI.start {A B : Int} (ha : 0 ≤ A) (hb : 0 ≤ B) : BzI A B A 1 0 B 0 1 :=
  ⟨ha, hb, ha, hb, rfl, by simp, by simp, by simp, by simp, by simp, by simp, by simp; omega, by simp; omega, rfl⟩
theorem alt_abs {q x0 x1 : Int} (hq : 0 ≤ q) (h : (0 ≤ x0 ∧ x1 ≤ 0) ∨ (x0 ≤ 0 ∧ 0 ≤ x1)) : ((x0 - q * x1).natAbs : Int) = x0.natAbs + q * x1.natAbs ∧ ((0 ≤ x1 ∧ x0 - q * x1 ≤ 0) ∨ (x1 ≤ 0 ∧ 0 ≤ x0 - q * x1)) := by
  rcases h with ⟨h1, h2⟩ | ⟨h1, h2⟩
  · have h3 : 0 ≤ q * (-x1) := Int.mul_nonneg hq (by omega)
    have e1 : (x1.natAbs : Int) = -x1 := by omega
    rw [e1]
    rw [Int.mul_neg] at h3 ⊢
    omega
  · have h3 : 0 ≤ q * x1 := Int.mul_nonneg hq h2
    have e1 : (x1.natAbs : Int) = x1 := by omega
    rw [e1]
    omega
theorem le_of_mul_le {r a b B : Int} (hr : 0 < r) (ha : 0 ≤ a) (hb : 0 ≤ b) (h : r * a + b = B) : a ≤ B := by
  have : 1 * a ≤ r * a := Int.mul_le_mul_of_nonneg_right (by omega) ha
  omega
theorem BzI.step {A B r0 x0 y0 r1 x1 y1 : Int} (h : BzI A B r0 x0 y0 r1 x1 y1) (hr : r1 ≠ 0) :
    BzI A B r1 x1 y1 (r0.fmod r1) (x0 - r0.fdiv r1 * x1) (y0 - r0.fdiv r1 * y1) := by
  obtain ⟨ha, hb, p0, p1, g, e0, e1, sx, sy, bx, by_, lx, ly, z⟩ := h
  have hpos : 0 < r1 := by omega
  have hq : 0 ≤ r0.fdiv r1 := Int.fdiv_nonneg p0 p1
  obtain ⟨m1, m2⟩ := (fmod_range r0 hr).1 hpos
  have hd := fdiv_fmod r0 r1
  obtain ⟨k1, k2⟩ := alt_abs hq sx
  obtain ⟨j1, j2⟩ := alt_abs hq sy
  have ex : r1 * ((x0 - r0.fdiv r1 * x1).natAbs : Int) + r0.fmod r1 * (x1.natAbs : Int) = B := by
    rw [k1, Int.mul_add, ← bx]
    have : r0 * (x1.natAbs : Int) = r0.fdiv r1 * r1 * (x1.natAbs : Int) + r0.fmod r1 * (x1.natAbs : Int) := by rw [← Int.add_mul, ← hd]
    have e2 : r1 * (r0.fdiv r1 * (x1.natAbs : Int)) = r0.fdiv r1 * r1 * (x1.natAbs : Int) := by rw [← Int.mul_assoc, Int.mul_comm r1]
    omega
  have ey : r1 * ((y0 - r0.fdiv r1 * y1).natAbs : Int) + r0.fmod r1 * (y1.natAbs : Int) = A := by
    rw [j1, Int.mul_add, ← by_]
    have : r0 * (y1.natAbs : Int) = r0.fdiv r1 * r1 * (y1.natAbs : Int) + r0.fmod r1 * (y1.natAbs : Int) := by rw [← Int.add_mul, ← hd]
    have e2 : r1 * (r0.fdiv r1 * (y1.natAbs : Int)) = r0.fdiv r1 * r1 * (y1.natAbs : Int) := by rw [← Int.mul_assoc, Int.mul_comm r1]
    omega
  refine ⟨ha, hb, p1, m1, ?_, e1, ?_, k2, j2, ex, ey, ?_, ?_, ?_⟩
  · have : (r0.fmod r1).natAbs = r0.natAbs % r1.natAbs := by
      obtain ⟨u, hu⟩ := Int.eq_ofNat_of_zero_le p0
      obtain ⟨v, hv⟩ := Int.eq_ofNat_of_zero_le p1
      rw [hu, hv, ← Int.ofNat_fmod, Int.natAbs_natCast, Int.natAbs_natCast, Int.natAbs_natCast]
    rw [this, Nat.gcd_comm, ← Nat.gcd_rec, Nat.gcd_comm, g]
  · have : r0.fmod r1 = r0 - r0.fdiv r1 * r1 := by omega
    rw [this]
    have h1 : A * (x0 - r0.fdiv r1 * x1) = A * x0 - r0.fdiv r1 * (A * x1) := by rw [Int.mul_sub, Int.mul_left_comm]
    have h2 : B * (y0 - r0.fdiv r1 * y1) = B * y0 - r0.fdiv r1 * (B * y1) := by rw [Int.mul_sub, Int.mul_left_comm]
    have h3 : r0.fdiv r1 * r1 = r0.fdiv r1 * (A * x1) + r0.fdiv r1 * (B * y1) := by rw [← Int.mul_add, ← e1]
    omega
  · have := le_of_mul_le hpos (by omega) (Int.mul_nonneg m1 (by omega)) ex; omega
  · have := le_of_mul_le hpos (by omega) (Int.mul_nonneg m1 (by omega)) ey; omega
  · rw [← z]; exact (bez_step (by omega)).symm
theorem BzI.x0 {A B r0 x0 y0 r1 x1 y1 : Int} (h : BzI A B r0 x0 y0 r1 x1 y1) (hr : r1 ≠ 0) : (x0.natAbs : Int) ≤ B ∧ (y0.natAbs : Int) ≤ A := by
  have hpos : 0 < r1 := by have := h.p1; omega
  have h1 : r1 * (x0.natAbs : Int) + r0 * (x1.natAbs : Int) = B := by rw [Int.add_comm]; exact h.bx
  have h2 : r1 * (y0.natAbs : Int) + r0 * (y1.natAbs : Int) = A := by rw [Int.add_comm]; exact h.byy
  exact ⟨le_of_mul_le hpos (by omega) (Int.mul_nonneg h.p0 (by omega)) h1, le_of_mul_le hpos (by omega) (Int.mul_nonneg h.p0 (by omega)) h2⟩
theorem BzI.done {A B r0 x0 y0 r1 x1 y1 : Int} (h : BzI A B r0 x0 y0 r1 x1 y1) (hr : r1 = 0) : bez A 1 0 B 0 1 = (r0, x0, y0) ∧ r0 = (Nat.gcd A.natAbs B.natAbs : Int) := by
  subst hr
  refine ⟨by rw [← h.z]; exact bez_end (by omega), ?_⟩
  have := h.g
  simp at this
  rw [← this]
  have := h.p0
  omega
end Go.Proofs.Ytehbfobfkpejoaa.S
