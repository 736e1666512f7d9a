/-
  Lengths of numbers as they are answered.
-/
import Derived.Test.YtekhnajfdaknnaaSigA
namespace Go.Proofs.Ytekhnajfdaknnaa.S
open Go.RowKit

theorem pw2 : pw 2 = 18446744073709551616 := by decide
theorem len_add {x y : ZI} (hx : Lb x.abs) (hy : Lb y.abs) : (ZI.of (x.val + y.val)).abs.length ≤ x.abs.length + y.abs.length + 1 := by
  have h1 := ZI.abs_lt hx
  have h2 := ZI.abs_lt hy
  refine ZI.len_of (Nat.lt_of_le_of_lt (Int.natAbs_add_le _ _) ?_)
  have e1 := pw_le (show x.abs.length ≤ x.abs.length + y.abs.length by omega)
  have e2 := pw_le (show y.abs.length ≤ x.abs.length + y.abs.length by omega)
  rw [pw_succ]
  omega
theorem len_neg {x : ZI} (hx : Lb x.abs) : (ZI.of (-x.val)).abs.length ≤ x.abs.length := ZI.len_of (by rw [Int.natAbs_neg]; exact ZI.abs_lt hx)
theorem len_abs {x : ZI} (hx : Lb x.abs) : (ZI.of (x.val.natAbs : Int)).abs.length ≤ x.abs.length := ZI.len_of (by rw [Int.natAbs_natCast]; exact ZI.abs_lt hx)
theorem len_id {x : ZI} (hx : Lb x.abs) : (ZI.of x.val).abs.length ≤ x.abs.length := ZI.len_of (ZI.abs_lt hx)
theorem len_sub {x y : ZI} (hx : Lb x.abs) (hy : Lb y.abs) : (ZI.of (x.val - y.val)).abs.length ≤ x.abs.length + y.abs.length + 1 := by
  have h1 := ZI.abs_lt hx
  have h2 := ZI.abs_lt hy
  refine ZI.len_of (Nat.lt_of_le_of_lt (Int.natAbs_sub_le _ _) ?_)
  have e1 := pw_le (show x.abs.length ≤ x.abs.length + y.abs.length by omega)
  have e2 := pw_le (show y.abs.length ≤ x.abs.length + y.abs.length by omega)
  rw [pw_succ]
  omega
theorem len_mul {x y : ZI} (hx : Lb x.abs) (hy : Lb y.abs) : (ZI.of (x.val * y.val)).abs.length ≤ x.abs.length + y.abs.length := by
  refine ZI.len_of ?_
  rw [Int.natAbs_mul]
  exact mul_lt_pw (ZI.abs_lt hx) (ZI.abs_lt hy)
theorem len_iv {s : Bool} {zs : List Nat} (h : Lb zs) : (ZI.of (iv s zs)).abs.length ≤ zs.length := ZI.len_of (by rw [iv_abs]; exact val_lt h)
theorem len_le {z : Int} {L : Nat} (h : z.natAbs < pw L) : (ZI.of z).abs.length ≤ L := ZI.len_of h
end Go.Proofs.Ytekhnajfdaknnaa.S
