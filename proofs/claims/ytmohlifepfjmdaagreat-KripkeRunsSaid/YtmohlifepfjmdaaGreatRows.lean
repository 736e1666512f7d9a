/-
  NARROWER THAN 'FOR EVERY INPUT', by the rows' own cells (each row's printed sentence says how): KripkeSteps: loops · KripkeRuns: loops.
  DERIVED. THE GIVEN ROWS OF THIS SEAT. 2 by the template 'for every input the law returns true; each argument reads behind the call as it read before'; 0 by the template 'total and deterministic' (their statements: YtmohlifepfjmdaaGreatTotals.lean).
  GIVEN WITH THE SEED: the statements are not yours to turn. If you find one false, say at which input.
  Laid BY PROGRAM, IN A SANDBOX (cutbox-rows.mjs): the forced cells as the released guide's own fill.sh prints them over the translation 4b82399103526513… (all of the seat's roots in one cut). By AI agents, Wed Nov 11 2026. No macro, syntax, notation, axiom, sorry.
-/
import Derived.Test.YtmohlifepfjmdaaGreatChecked
import GoSem.Claim
import GoSem.ClaimJoined
import GoSem.ClaimMapViews
import Derived.JoinedTies
import Derived.KernelRfl
namespace Go.Proofs.YtmohlifepfjmdaaGreat
/- THE CELL 'sum', in the pinned program and in every row, IS THE sha256 OF THE DUMP (.gsa) THAT YtmohlifepfjmdaaGreatProg.lean LOADS. Nothing in Lean hashes anything: it is a label: what it is worth is what the hold of that sum in a sandbox is worth. -/
noncomputable def Tryz.pinned : Pinned := { name := "ytmohlifepfjmdaagreat", sum := "4b823991035265132fa17b2c610a057822c2ccc737ac263e0b45a0e55a5487c4", checked := Tryz.checked }
namespace Rows
def none {H : Type} : Left H := { results := [], args := [] }

/-- 'plumblinelaw18.KripkeSteps': WHATEVER THE INPUT: true; the input reads as it did. -/
def kripkeStepsSpec : ChangeSpec := { name := "kripkeSteps", fn := fun _ => fun
  | [d1, d2, d3, d4, d5] => { results := [.lit (.bool true)], args := [d1, d2, d3, d4, d5] }
  | _ => none }
def kripkeStepsRow : OpenClaim := { program := "ytmohlifepfjmdaagreat", sum := "4b823991035265132fa17b2c610a057822c2ccc737ac263e0b45a0e55a5487c4", func := "plumbline/plumblinelaw18.KripkeSteps", spec := "kripkeSteps", unfollowed := true, recurses := true, loops := true, apart := false }
def KripkeStepsSaid : Prop := kripkeStepsRow.holds Tryz.pinned (OpenSpec.ofChange kripkeStepsSpec)

/-- ITS FALSE NEIGHBOUR: 'it returns false'. Refute it at one input. -/
def kripkeStepsWrong : ChangeSpec := { name := "kripkeSteps", fn := fun _ => fun
  | [d1, d2, d3, d4, d5] => { results := [.lit (.bool false)], args := [d1, d2, d3, d4, d5] }
  | _ => none }
def KripkeStepsWrongFalsely : Prop := kripkeStepsRow.holds Tryz.pinned (OpenSpec.ofChange kripkeStepsWrong)

/-- 'plumblinelaw18.KripkeRuns': WHATEVER THE INPUT: true; the input reads as it did. -/
def kripkeRunsSpec : ChangeSpec := { name := "kripkeRuns", fn := fun _ => fun
  | [d1, d2, d3] => { results := [.lit (.bool true)], args := [d1, d2, d3] }
  | _ => none }
def kripkeRunsRow : OpenClaim := { program := "ytmohlifepfjmdaagreat", sum := "4b823991035265132fa17b2c610a057822c2ccc737ac263e0b45a0e55a5487c4", func := "plumbline/plumblinelaw18.KripkeRuns", spec := "kripkeRuns", unfollowed := true, recurses := true, loops := true, apart := false }
def KripkeRunsSaid : Prop := kripkeRunsRow.holds Tryz.pinned (OpenSpec.ofChange kripkeRunsSpec)

/-- ITS FALSE NEIGHBOUR: 'it returns false'. Refute it at one input. -/
def kripkeRunsWrong : ChangeSpec := { name := "kripkeRuns", fn := fun _ => fun
  | [d1, d2, d3] => { results := [.lit (.bool false)], args := [d1, d2, d3] }
  | _ => none }
def KripkeRunsWrongFalsely : Prop := kripkeRunsRow.holds Tryz.pinned (OpenSpec.ofChange kripkeRunsWrong)

/- THE SECOND FORM. 'bulk': how many values and letters a reading holds, each counted each time it is reached (what is shared counts as often as it is met; a slice's spare places count too). A statement '..UptoSaid' is the law's where the arguments, and the package variables that the reading takes, are together of bulk at most 1048576: NARROWER than '..Said'. Prove '..Said' where nothing that the law and all that it calls make is longer than what came in: it says more and counts as full. Else prove '..UptoSaid'. A law counts once. -/
mutual
def uptoBulk {H : Type} : DataW H → Nat
  | .lit (.string bytes) => bytes.length + 1
  | .lit _ => 1
  | .nil => 1
  | .ptr d => uptoBulk d + 1
  | .slice elems spare => uptoBulkAll elems + uptoBulkAll spare + 1
  | .agg parts => uptoBulkAll parts + 1
  | .iface _ d => uptoBulk d + 1
  | .map entries => uptoBulkEntries entries + 1
  | .held _ => 1
def uptoBulkAll {H : Type} : List (DataW H) → Nat
  | [] => 0
  | d :: r => uptoBulk d + uptoBulkAll r
def uptoBulkEntries {H : Type} : List (Lit × DataW H) → Nat
  | [] => 0
  | x :: r => uptoBulkEntry x + uptoBulkEntries r
def uptoBulkEntry {H : Type} : Lit × DataW H → Nat
  | (.string bytes, d) => bytes.length + uptoBulk d + 1
  | (_, d) => uptoBulk d + 1
 end
def uptoSmall : (H : Type) → List (DataW H) → Bool := fun _ ds => decide (uptoBulkAll ds ≤ 1048576)
def OpenSpec.upto (s : _root_.Go.ChangeSpec) : _root_.Go.OpenSpec := { _root_.Go.OpenSpec.ofChange s with cond := some uptoSmall }

/-- 'plumblinelaw18.KripkeSteps', WHERE WHAT IT READS IS OF BULK AT MOST 1048576: true; the input reads as it did. -/
def kripkeStepsUptoRow : OpenClaim := { program := "ytmohlifepfjmdaagreat", sum := "4b823991035265132fa17b2c610a057822c2ccc737ac263e0b45a0e55a5487c4", func := "plumbline/plumblinelaw18.KripkeSteps", spec := "kripkeSteps", unfollowed := true, recurses := true, loops := true, apart := false, narrowed := true }
def KripkeStepsUptoSaid : Prop := kripkeStepsUptoRow.holds Tryz.pinned (OpenSpec.upto kripkeStepsSpec)

/-- 'plumblinelaw18.KripkeRuns', WHERE WHAT IT READS IS OF BULK AT MOST 1048576: true; the input reads as it did. -/
def kripkeRunsUptoRow : OpenClaim := { program := "ytmohlifepfjmdaagreat", sum := "4b823991035265132fa17b2c610a057822c2ccc737ac263e0b45a0e55a5487c4", func := "plumbline/plumblinelaw18.KripkeRuns", spec := "kripkeRuns", unfollowed := true, recurses := true, loops := true, apart := false, narrowed := true }
def KripkeRunsUptoSaid : Prop := kripkeRunsUptoRow.holds Tryz.pinned (OpenSpec.upto kripkeRunsSpec)

end Rows
end Go.Proofs.YtmohlifepfjmdaaGreat
