/-
  NARROWER THAN 'FOR EVERY INPUT', by the rows' own cells (each row's printed sentence says how): ConfineEdges: loops · ConfineKnows: loops · ConfineFuel: loops.
  DERIVED. THE GIVEN ROWS OF THIS SEAT. 3 by the template 'for every input the law returns true; each argument reads behind the call as it read before'; 0 by the template 'total and deterministic' (their statements: YtdnhcneallkljaaGreatTotals.lean).
  GIVEN WITH THE SEED: the statements are not yours to turn. If you find one false, say at which input.
  Laid BY PROGRAM, IN A SANDBOX (cutbox-rows.mjs): the forced cells as the released guide's own fill.sh prints them over the translation bf5f30b5c1da1875… (all of the seat's roots in one cut). By AI agents, Wed Nov 11 2026. No macro, syntax, notation, axiom, sorry.
-/
import Derived.Test.YtdnhcneallkljaaGreatChecked
import GoSem.Claim
import GoSem.ClaimJoined
import GoSem.ClaimMapViews
import Derived.JoinedTies
import Derived.KernelRfl
namespace Go.Proofs.YtdnhcneallkljaaGreat
/- THE CELL 'sum', in the pinned program and in every row, IS THE sha256 OF THE DUMP (.gsa) THAT YtdnhcneallkljaaGreatProg.lean LOADS. Nothing in Lean hashes anything: it is a label: what it is worth is what the hold of that sum in a sandbox is worth. -/
noncomputable def Tryz.pinned : Pinned := { name := "ytdnhcneallkljaagreat", sum := "bf5f30b5c1da18755e3b4d9e1ceaec4764e5f427d43dbb9028dc2ae192b5296e", checked := Tryz.checked }
namespace Rows
def none {H : Type} : Left H := { results := [], args := [] }

/-- 'plumblinelaw19.ConfineEdges': WHATEVER THE INPUT: true; the input reads as it did. -/
def confineEdgesSpec : ChangeSpec := { name := "confineEdges", fn := fun _ => fun
  | [d1, d2] => { results := [.lit (.bool true)], args := [d1, d2] }
  | _ => none }
def confineEdgesRow : OpenClaim := { program := "ytdnhcneallkljaagreat", sum := "bf5f30b5c1da18755e3b4d9e1ceaec4764e5f427d43dbb9028dc2ae192b5296e", func := "plumbline/plumblinelaw19.ConfineEdges", spec := "confineEdges", unfollowed := true, recurses := true, loops := true, plainKeys := false, apart := false }
def ConfineEdgesSaid : Prop := confineEdgesRow.holds Tryz.pinned (OpenSpec.ofChange confineEdgesSpec)

/-- ITS FALSE NEIGHBOUR: 'it returns false'. Refute it at one input. -/
def confineEdgesWrong : ChangeSpec := { name := "confineEdges", fn := fun _ => fun
  | [d1, d2] => { results := [.lit (.bool false)], args := [d1, d2] }
  | _ => none }
def ConfineEdgesWrongFalsely : Prop := confineEdgesRow.holds Tryz.pinned (OpenSpec.ofChange confineEdgesWrong)

/-- 'plumblinelaw19.ConfineKnows': WHATEVER THE INPUT: true; the input reads as it did. -/
def confineKnowsSpec : ChangeSpec := { name := "confineKnows", fn := fun _ => fun
  | [d1, d2, d3] => { results := [.lit (.bool true)], args := [d1, d2, d3] }
  | _ => none }
def confineKnowsRow : OpenClaim := { program := "ytdnhcneallkljaagreat", sum := "bf5f30b5c1da18755e3b4d9e1ceaec4764e5f427d43dbb9028dc2ae192b5296e", func := "plumbline/plumblinelaw19.ConfineKnows", spec := "confineKnows", unfollowed := true, recurses := true, loops := true, plainKeys := false, apart := false }
def ConfineKnowsSaid : Prop := confineKnowsRow.holds Tryz.pinned (OpenSpec.ofChange confineKnowsSpec)

/-- ITS FALSE NEIGHBOUR: 'it returns false'. Refute it at one input. -/
def confineKnowsWrong : ChangeSpec := { name := "confineKnows", fn := fun _ => fun
  | [d1, d2, d3] => { results := [.lit (.bool false)], args := [d1, d2, d3] }
  | _ => none }
def ConfineKnowsWrongFalsely : Prop := confineKnowsRow.holds Tryz.pinned (OpenSpec.ofChange confineKnowsWrong)

/-- 'plumblinelaw19.ConfineFuel': WHATEVER THE INPUT: true; the input reads as it did. -/
def confineFuelSpec : ChangeSpec := { name := "confineFuel", fn := fun _ => fun
  | [d1, d2, d3, d4, d5] => { results := [.lit (.bool true)], args := [d1, d2, d3, d4, d5] }
  | _ => none }
def confineFuelRow : OpenClaim := { program := "ytdnhcneallkljaagreat", sum := "bf5f30b5c1da18755e3b4d9e1ceaec4764e5f427d43dbb9028dc2ae192b5296e", func := "plumbline/plumblinelaw19.ConfineFuel", spec := "confineFuel", unfollowed := true, recurses := true, loops := true, plainKeys := false, apart := false }
def ConfineFuelSaid : Prop := confineFuelRow.holds Tryz.pinned (OpenSpec.ofChange confineFuelSpec)

/-- ITS FALSE NEIGHBOUR: 'it returns false'. Refute it at one input. -/
def confineFuelWrong : ChangeSpec := { name := "confineFuel", fn := fun _ => fun
  | [d1, d2, d3, d4, d5] => { results := [.lit (.bool false)], args := [d1, d2, d3, d4, d5] }
  | _ => none }
def ConfineFuelWrongFalsely : Prop := confineFuelRow.holds Tryz.pinned (OpenSpec.ofChange confineFuelWrong)

/- THE SECOND FORM. 'bulk': how many values and letters a reading holds, each counted each time it is reached (what is shared counts as often as it is met; a slice's spare places count too). A statement '..UptoSaid' is the law's where the arguments, and the package variables that the reading takes, are together of bulk at most 1048576: NARROWER than '..Said'. Prove '..Said' where nothing that the law and all that it calls make is longer than what came in: it says more and counts as full. Else prove '..UptoSaid'. A law counts once. -/
mutual
def uptoBulk {H : Type} : DataW H → Nat
  | .lit (.string bytes) => bytes.length + 1
  | .lit _ => 1
  | .nil => 1
  | .ptr d => uptoBulk d + 1
  | .slice elems spare => uptoBulkAll elems + uptoBulkAll spare + 1
  | .agg parts => uptoBulkAll parts + 1
  | .iface _ d => uptoBulk d + 1
  | .map entries => uptoBulkEntries entries + 1
  | .held _ => 1
def uptoBulkAll {H : Type} : List (DataW H) → Nat
  | [] => 0
  | d :: r => uptoBulk d + uptoBulkAll r
def uptoBulkEntries {H : Type} : List (Lit × DataW H) → Nat
  | [] => 0
  | x :: r => uptoBulkEntry x + uptoBulkEntries r
def uptoBulkEntry {H : Type} : Lit × DataW H → Nat
  | (.string bytes, d) => bytes.length + uptoBulk d + 1
  | (_, d) => uptoBulk d + 1
 end
def uptoSmall : (H : Type) → List (DataW H) → Bool := fun _ ds => decide (uptoBulkAll ds ≤ 1048576)
def OpenSpec.upto (s : _root_.Go.ChangeSpec) : _root_.Go.OpenSpec := { _root_.Go.OpenSpec.ofChange s with cond := some uptoSmall }

/-- 'plumblinelaw19.ConfineEdges', WHERE WHAT IT READS IS OF BULK AT MOST 1048576: true; the input reads as it did. -/
def confineEdgesUptoRow : OpenClaim := { program := "ytdnhcneallkljaagreat", sum := "bf5f30b5c1da18755e3b4d9e1ceaec4764e5f427d43dbb9028dc2ae192b5296e", func := "plumbline/plumblinelaw19.ConfineEdges", spec := "confineEdges", unfollowed := true, recurses := true, loops := true, plainKeys := false, apart := false, narrowed := true }
def ConfineEdgesUptoSaid : Prop := confineEdgesUptoRow.holds Tryz.pinned (OpenSpec.upto confineEdgesSpec)

/-- 'plumblinelaw19.ConfineKnows', WHERE WHAT IT READS IS OF BULK AT MOST 1048576: true; the input reads as it did. -/
def confineKnowsUptoRow : OpenClaim := { program := "ytdnhcneallkljaagreat", sum := "bf5f30b5c1da18755e3b4d9e1ceaec4764e5f427d43dbb9028dc2ae192b5296e", func := "plumbline/plumblinelaw19.ConfineKnows", spec := "confineKnows", unfollowed := true, recurses := true, loops := true, plainKeys := false, apart := false, narrowed := true }
def ConfineKnowsUptoSaid : Prop := confineKnowsUptoRow.holds Tryz.pinned (OpenSpec.upto confineKnowsSpec)

/-- 'plumblinelaw19.ConfineFuel', WHERE WHAT IT READS IS OF BULK AT MOST 1048576: true; the input reads as it did. -/
def confineFuelUptoRow : OpenClaim := { program := "ytdnhcneallkljaagreat", sum := "bf5f30b5c1da18755e3b4d9e1ceaec4764e5f427d43dbb9028dc2ae192b5296e", func := "plumbline/plumblinelaw19.ConfineFuel", spec := "confineFuel", unfollowed := true, recurses := true, loops := true, plainKeys := false, apart := false, narrowed := true }
def ConfineFuelUptoSaid : Prop := confineFuelUptoRow.holds Tryz.pinned (OpenSpec.upto confineFuelSpec)

end Rows
end Go.Proofs.YtdnhcneallkljaaGreat
