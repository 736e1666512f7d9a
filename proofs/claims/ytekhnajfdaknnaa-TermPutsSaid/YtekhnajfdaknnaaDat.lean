/-
  Go values as Lean values.
-/
import Derived.Test.YtekhnajfdaknnaaSigG
import Derived.Test.YtekhnajfdaknnaaIa
namespace Go.Proofs.Ytekhnajfdaknnaa.S
open Go.RowKit

def intD (v : Int) : List D := [.raw (.int .i64 v)]
def ziD (x : ZI) : List D := [.raw (.bool x.neg), nsl x.abs]
def strD (x : ByteArray) : List D := [.raw (.string x)]
def boolD (x : Bool) : List D := [.raw (.bool x)]
def slD {α : Type} (es : Nat) (f : α → List D) (xs : List α) : List D := [.sl es (xs.map f)]
theorem map_at {α β : Type} {xs : List α} {i : Nat} {x : α} (h : xs[i]? = some x) {f : α → β} : (xs.map f)[i]? = some (f x) := by rw [List.getElem?_map, h]; rfl
theorem lenC_map {α : Type} (es : Nat) (f : α → List D) (xs : List α) : lenC (.d (.sl es (xs.map f))) = some xs.length := by simp [lenC]
/-- a struct of data -/
def vd (l : List D) : V := .t (.agg (l.map C.d))
structure Part where
  v : Int
  c : ZI
def Part.d (x : Part) : List D := [.raw (.int .i64 x.v), .raw (.bool x.c.neg), nsl x.c.abs]
structure Term where
  parts : List Part
  k : ZI
def Term.d (x : Term) : List D := [.sl 3 (x.parts.map Part.d), .raw (.bool x.k.neg), nsl x.k.abs]
end Go.Proofs.Ytekhnajfdaknnaa.S
