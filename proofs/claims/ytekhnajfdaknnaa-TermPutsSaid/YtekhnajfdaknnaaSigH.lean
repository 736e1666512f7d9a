/-
  Quotients, remainders, shifts; the least and the greatest; slices held against nil.
-/
import Derived.Test.YtekhnajfdaknnaaSigG
namespace Go.Proofs.Ytekhnajfdaknnaa.S
open Go.RowKit

section
variable {P : Program}
theorem Op.quo {d : Nat} {x y : Operand} {k : IntKind} {m n r : Int} {rs rs' : List (Nat × V)} {xt yt ty : TypeId} {pos af gd} (h : OV x (vi k m) rs) (h' : OV y (vi k n) rs') (hn : n ≠ 0) (he : m.tdiv n = r) (hr : k.wrap r = r) :
    OpOk P ⟨some d, .binOp .quo xt x y yt, ty, pos, af, gd⟩ { rs := rs ++ rs', ws := [(d, some (vi k r))] } := by
  refine Op.raw2 rfl h h' rfl fun ρ w h1 h2 => ?_
  simp [execOp, h1, h2, eqGuard, binOp, Op.intDiv, hn, he, hr, go_sem]
theorem Op.rem {d : Nat} {x y : Operand} {k : IntKind} {m n r : Int} {rs rs' : List (Nat × V)} {xt yt ty : TypeId} {pos af gd} (h : OV x (vi k m) rs) (h' : OV y (vi k n) rs') (hn : n ≠ 0) (he : m.tmod n = r) :
    OpOk P ⟨some d, .binOp .rem xt x y yt, ty, pos, af, gd⟩ { rs := rs ++ rs', ws := [(d, some (vi k r))] } := by
  refine Op.raw2 rfl h h' rfl fun ρ w h1 h2 => ?_
  simp [execOp, h1, h2, eqGuard, binOp, Op.intDiv, hn, he, go_sem]
theorem Op.shr {d : Nat} {x y : Operand} {k k' : IntKind} {m r : Int} {n : Nat} {rs rs' : List (Nat × V)} {xt yt ty : TypeId} {pos af gd} (h : OV x (vi k m) rs) (h' : OV y (vi k' n) rs') (hb : n ≤ k.bits) (he : m.fdiv (2 ^ n) = r) :
    OpOk P ⟨some d, .binOp .shr xt x y yt, ty, pos, af, gd⟩ { rs := rs ++ rs', ws := [(d, some (vi k r))] } := by
  refine Op.raw2 rfl h h' rfl fun ρ w h1 h2 => ?_
  have hs : Op.shift .shr k m k' n = pure (.int k r) := by
    unfold Op.shift
    rw [if_neg (by omega)]
    simp only [Int.toNat_natCast, Nat.min_eq_left hb, he]
  simp [execOp, h1, h2, eqGuard, binOp, hs, go_sem]
end
end Go.Proofs.Ytekhnajfdaknnaa.S
