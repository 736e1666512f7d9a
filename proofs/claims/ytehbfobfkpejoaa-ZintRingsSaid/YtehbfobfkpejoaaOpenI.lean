/-
  What the reader's data gives of a number with a sign that came in.
-/
import Derived.Test.YtehbfobfkpejoaaOpen
import Derived.Lib.SmallJoins
namespace Go.Proofs.Ytehbfobfkpejoaa
open Go.ChangeShapes Go.WideShapes Go.ChangeAt Go.RowKit Go.Joins

section
variable {H : Type} {enc : TypeId × Value → H} {w : World} {base : Nat} {spare : Nat → Bool} {held : Bool}
theorem open_intv {r : Reach} {b0 : Nat} {v : Value} {d : DataW H} {p : List MemPlace} (hv : Value.okWide Try.prog w r b0 25 v) (h : DataW.Trod enc Try.prog w base spare held 25 v d p) :
    ∃ (s : Bool) (ao : Option Addr) (c : Nat) (zs : List Nat), v = .agg #[.bool s, .slice ao zs.length c] ∧ Rd w ao c zs := by
  obtain ⟨v0, v1, y0, y1, n, rfl, rfl, rfl, h0, h1⟩ := open_agg2 Try.underlying25 (by kernel_rfl) (by kernel_rfl) hv h
  obtain ⟨b, hb, _⟩ := DataW.trod_bool Try.underlying4 h0
  obtain ⟨ao, c, zs, hs, hr⟩ := open_nat h1
  simp at hb hs
  subst hb hs
  exact ⟨b, ao, c, zs, rfl, hr⟩
end
end Go.Proofs.Ytehbfobfkpejoaa
