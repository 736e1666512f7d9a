/-
  The sign of a number, and how two numbers stand.
-/
import Derived.Test.YtekhnajfdaknnaaPure
namespace Go.Proofs.Ytekhnajfdaknnaa

/-- the sign of a number, and how two numbers stand -/
def sgn (z : Int) : Int := if z < 0 then -1 else if 0 < z then 1 else 0
def cmpZ (x y : Int) : Int := if x < y then -1 else if y < x then 1 else 0
theorem sgn_neg {z : Int} (h : z < 0) : sgn z = -1 := by unfold sgn; rw [if_pos h]
theorem sgn_pos {z : Int} (h : 0 < z) : sgn z = 1 := by unfold sgn; rw [if_neg (by omega), if_pos h]
theorem sgn_zero {z : Int} (h : z = 0) : sgn z = 0 := by subst h; rfl
theorem sgn_range (z : Int) : -1 ≤ sgn z ∧ sgn z ≤ 1 := by unfold sgn; split; omega; split <;> omega
theorem sgn_lt_zero {z : Int} : sgn z < 0 ↔ z < 0 := by unfold sgn; split; omega; split <;> omega
theorem sgn_gt_zero {z : Int} : 0 < sgn z ↔ 0 < z := by unfold sgn; split; omega; split <;> omega
theorem sgn_eq_zero {z : Int} : sgn z = 0 ↔ z = 0 := by unfold sgn; split; omega; split <;> omega
theorem cmpZ_sgn (x y : Int) : sgn (x - y) = cmpZ x y := by unfold sgn cmpZ; split <;> split <;> (try split) <;> (try split) <;> omega
theorem cmpZ_lt {x y : Int} (h : x < y) : cmpZ x y = -1 := by unfold cmpZ; rw [if_pos h]
theorem cmpZ_gt {x y : Int} (h : y < x) : cmpZ x y = 1 := by unfold cmpZ; rw [if_neg (by omega), if_pos h]
theorem cmpZ_eq {x y : Int} (h : x = y) : cmpZ x y = 0 := by unfold cmpZ; rw [if_neg (by omega), if_neg (by omega)]
theorem cmpZ_range (x y : Int) : -1 ≤ cmpZ x y ∧ cmpZ x y ≤ 1 := by unfold cmpZ; split; omega; split <;> omega
theorem cmpZ_neg (x y : Int) : cmpZ x y = -cmpZ y x := by unfold cmpZ; split <;> split <;> (try split) <;> omega
theorem cmpI_cmpZ (a b : Nat) : cmpI a b = cmpZ a b := by unfold cmpI cmpZ; split <;> split <;> (try split) <;> (try split) <;> omega
end Go.Proofs.Ytekhnajfdaknnaa
