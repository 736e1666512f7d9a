/-
  The least and the greatest of two; function values with what they hold.
-/
import Derived.Test.YtekhnajfdaknnaaSigK
namespace Go.Proofs.Ytekhnajfdaknnaa.S
open Go.RowKit

section
variable {P : Program}
theorem Op.raw2c {b : Builtin} {d : Nat} {x y : Operand} {v v' u : Value} {rs rs' : List (Nat × V)} {tys : Array TypeId} {ty : TypeId} {pos af gd} (h : OV x (.t (.c (.d (.raw v)))) rs) (h' : OV y (.t (.c (.d (.raw v')))) rs') (hf : flat u = true)
    (hrun : ∀ (cs : Array Bool) w, (builtin b tys ty cs #[v, v']).run P w = .ok (.value u) w) : OpOk P ⟨some d, .call { callee := .builtin b, args := #[x, y], argTypes := tys }, ty, pos, af, gd⟩ { rs := rs ++ rs', ws := [(d, some (.t (.c (.d (.raw u)))))] } :=
  Op.raw2 rfl h h' hf fun ρ w h1 h2 => by
    have e1 : (Array.map ρ #[x, y]) = #[ρ x, ρ y] := by simp
    simp only [execOp, resolve, e1, h1, h2, Sem.run_bind, Sem.run_pure, Result.andThen_ok, invoke, hrun]
theorem Op.max2 {d : Nat} {x y : Operand} {k : IntKind} {m n r : Int} {rs rs' : List (Nat × V)} {tys : Array TypeId} {ty : TypeId} {pos af gd} (h : OV x (vi k m) rs) (h' : OV y (vi k n) rs') (he : r = max m n) :
    OpOk P ⟨some d, .call { callee := .builtin .max, args := #[x, y], argTypes := tys }, ty, pos, af, gd⟩ { rs := rs ++ rs', ws := [(d, some (vi k r))] } := by
  subst he
  refine Op.raw2c h h' rfl fun cs w => ?_
  by_cases hc : m < n
  · simp [builtin, Builtin.max_, Builtin.max2, hc, Int.max_eq_right (Int.le_of_lt hc)]
  · simp [builtin, Builtin.max_, Builtin.max2, hc, Int.max_eq_left (Int.not_lt.1 hc)]
theorem Op.min2 {d : Nat} {x y : Operand} {k : IntKind} {m n r : Int} {rs rs' : List (Nat × V)} {tys : Array TypeId} {ty : TypeId} {pos af gd} (h : OV x (vi k m) rs) (h' : OV y (vi k n) rs') (he : r = min m n) :
    OpOk P ⟨some d, .call { callee := .builtin .min, args := #[x, y], argTypes := tys }, ty, pos, af, gd⟩ { rs := rs ++ rs', ws := [(d, some (vi k r))] } := by
  subst he
  refine Op.raw2c h h' rfl fun cs w => ?_
  by_cases hc : n < m
  · simp [builtin, Builtin.min_, Builtin.min2, hc, Int.min_eq_right (Int.le_of_lt hc)]
  · simp [builtin, Builtin.min_, Builtin.min2, hc, Int.min_eq_left (Int.not_lt.1 hc)]
/-- a function value that holds one cell -/
theorem Op.makeF1 {d t : Nat} {fn : Go.Fn} {x : A} {ty : TypeId} {pos af gd} :
    OpOk P ⟨some d, .makeFunc fn #[] #[.tmp t], ty, pos, af, gd⟩ { rs := [(t, .t (.c x.c))], ws := [(d, some (.t (.c (.fn fn [] [x]))))] } :=
  OpOk.value d _ rfl rfl rfl fun e f H B a w hok hr => by
    have h1 : CR H B x.c (a.eval (.tmp t)) := hok.slot t _ (hr.1 (t, .t (.c x.c)) (by simp))
    refine ⟨.func fn #[] #[a.eval (.tmp t)], ?_, [], [a.eval (.tmp t)], rfl, trivial, ?_, trivial⟩
    · simp [execOp, Instr.makeFunc]
    · cases x <;> exact h1
end
end Go.Proofs.Ytekhnajfdaknnaa.S
