/-
  NARROWER THAN 'FOR EVERY INPUT', by the rows' own cells (each row's printed sentence says how): RefineHolds: loops · RefineSteps: loops · RefineNew: loops · RefineTight: loops.
  DERIVED. THE GIVEN ROWS OF THIS SEAT. 4 by the template 'for every input the law returns true; each argument reads behind the call as it read before'; 0 by the template 'total and deterministic' (their statements: YtlcijejaplagbaaGreatTotals.lean).
  GIVEN WITH THE SEED: the statements are not yours to turn. If you find one false, say at which input.
  Laid BY PROGRAM, IN A SANDBOX (cutbox-rows.mjs): the forced cells as the released guide's own fill.sh prints them over the translation b82901bc751d1272… (all of the seat's roots in one cut). By AI agents, Wed Nov 11 2026. No macro, syntax, notation, axiom, sorry.
-/
import Derived.Test.YtlcijejaplagbaaGreatChecked
import GoSem.Claim
import GoSem.ClaimJoined
import GoSem.ClaimMapViews
import Derived.JoinedTies
import Derived.KernelRfl
namespace Go.Proofs.YtlcijejaplagbaaGreat
/- THE CELL 'sum', in the pinned program and in every row, IS THE sha256 OF THE DUMP (.gsa) THAT YtlcijejaplagbaaGreatProg.lean LOADS. Nothing in Lean hashes anything: it is a label: what it is worth is what the hold of that sum in a sandbox is worth. -/
noncomputable def Tryz.pinned : Pinned := { name := "ytlcijejaplagbaagreat", sum := "b82901bc751d1272f5d561e04c34b3995091bf9d444bca916c7cedea7f056fb9", checked := Tryz.checked }
namespace Rows
def none {H : Type} : Left H := { results := [], args := [] }

/-- 'plumblinelaw24.RefineHolds': WHATEVER THE INPUT: true; the input reads as it did. -/
def refineHoldsSpec : ChangeSpec := { name := "refineHolds", fn := fun _ => fun
  | [d1, d2, d3, d4] => { results := [.lit (.bool true)], args := [d1, d2, d3, d4] }
  | _ => none }
def refineHoldsRow : OpenClaim := { program := "ytlcijejaplagbaagreat", sum := "b82901bc751d1272f5d561e04c34b3995091bf9d444bca916c7cedea7f056fb9", func := "plumbline/plumblinelaw24.RefineHolds", spec := "refineHolds", unfollowed := true, recurses := true, loops := true, apart := false }
def RefineHoldsSaid : Prop := refineHoldsRow.holds Tryz.pinned (OpenSpec.ofChange refineHoldsSpec)

/-- ITS FALSE NEIGHBOUR: 'it returns false'. Refute it at one input. -/
def refineHoldsWrong : ChangeSpec := { name := "refineHolds", fn := fun _ => fun
  | [d1, d2, d3, d4] => { results := [.lit (.bool false)], args := [d1, d2, d3, d4] }
  | _ => none }
def RefineHoldsWrongFalsely : Prop := refineHoldsRow.holds Tryz.pinned (OpenSpec.ofChange refineHoldsWrong)

/-- 'plumblinelaw24.RefineSteps': WHATEVER THE INPUT: true; the input reads as it did. -/
def refineStepsSpec : ChangeSpec := { name := "refineSteps", fn := fun _ => fun
  | [d1, d2, d3, d4, d5] => { results := [.lit (.bool true)], args := [d1, d2, d3, d4, d5] }
  | _ => none }
def refineStepsRow : OpenClaim := { program := "ytlcijejaplagbaagreat", sum := "b82901bc751d1272f5d561e04c34b3995091bf9d444bca916c7cedea7f056fb9", func := "plumbline/plumblinelaw24.RefineSteps", spec := "refineSteps", unfollowed := true, recurses := true, loops := true, apart := false }
def RefineStepsSaid : Prop := refineStepsRow.holds Tryz.pinned (OpenSpec.ofChange refineStepsSpec)

/-- ITS FALSE NEIGHBOUR: 'it returns false'. Refute it at one input. -/
def refineStepsWrong : ChangeSpec := { name := "refineSteps", fn := fun _ => fun
  | [d1, d2, d3, d4, d5] => { results := [.lit (.bool false)], args := [d1, d2, d3, d4, d5] }
  | _ => none }
def RefineStepsWrongFalsely : Prop := refineStepsRow.holds Tryz.pinned (OpenSpec.ofChange refineStepsWrong)

/-- 'plumblinelaw24.RefineNew': WHATEVER THE INPUT: true; the input reads as it did. -/
def refineNewSpec : ChangeSpec := { name := "refineNew", fn := fun _ => fun
  | [d1, d2, d3] => { results := [.lit (.bool true)], args := [d1, d2, d3] }
  | _ => none }
def refineNewRow : OpenClaim := { program := "ytlcijejaplagbaagreat", sum := "b82901bc751d1272f5d561e04c34b3995091bf9d444bca916c7cedea7f056fb9", func := "plumbline/plumblinelaw24.RefineNew", spec := "refineNew", unfollowed := true, recurses := true, loops := true, apart := false }
def RefineNewSaid : Prop := refineNewRow.holds Tryz.pinned (OpenSpec.ofChange refineNewSpec)

/-- ITS FALSE NEIGHBOUR: 'it returns false'. Refute it at one input. -/
def refineNewWrong : ChangeSpec := { name := "refineNew", fn := fun _ => fun
  | [d1, d2, d3] => { results := [.lit (.bool false)], args := [d1, d2, d3] }
  | _ => none }
def RefineNewWrongFalsely : Prop := refineNewRow.holds Tryz.pinned (OpenSpec.ofChange refineNewWrong)

/-- 'plumblinelaw24.RefineTight': WHATEVER THE INPUT: true; the input reads as it did. -/
def refineTightSpec : ChangeSpec := { name := "refineTight", fn := fun _ => fun
  | [d1, d2, d3] => { results := [.lit (.bool true)], args := [d1, d2, d3] }
  | _ => none }
def refineTightRow : OpenClaim := { program := "ytlcijejaplagbaagreat", sum := "b82901bc751d1272f5d561e04c34b3995091bf9d444bca916c7cedea7f056fb9", func := "plumbline/plumblinelaw24.RefineTight", spec := "refineTight", unfollowed := true, recurses := true, loops := true, apart := false }
def RefineTightSaid : Prop := refineTightRow.holds Tryz.pinned (OpenSpec.ofChange refineTightSpec)

/-- ITS FALSE NEIGHBOUR: 'it returns false'. Refute it at one input. -/
def refineTightWrong : ChangeSpec := { name := "refineTight", fn := fun _ => fun
  | [d1, d2, d3] => { results := [.lit (.bool false)], args := [d1, d2, d3] }
  | _ => none }
def RefineTightWrongFalsely : Prop := refineTightRow.holds Tryz.pinned (OpenSpec.ofChange refineTightWrong)

/- THE SECOND FORM. 'bulk': how many values and letters a reading holds, each counted each time it is reached (what is shared counts as often as it is met; a slice's spare places count too). A statement '..UptoSaid' is the law's where the arguments, and the package variables that the reading takes, are together of bulk at most 1048576: NARROWER than '..Said'. Prove '..Said' where nothing that the law and all that it calls make is longer than what came in: it says more and counts as full. Else prove '..UptoSaid'. A law counts once. -/
mutual
def uptoBulk {H : Type} : DataW H → Nat
  | .lit (.string bytes) => bytes.length + 1
  | .lit _ => 1
  | .nil => 1
  | .ptr d => uptoBulk d + 1
  | .slice elems spare => uptoBulkAll elems + uptoBulkAll spare + 1
  | .agg parts => uptoBulkAll parts + 1
  | .iface _ d => uptoBulk d + 1
  | .map entries => uptoBulkEntries entries + 1
  | .held _ => 1
def uptoBulkAll {H : Type} : List (DataW H) → Nat
  | [] => 0
  | d :: r => uptoBulk d + uptoBulkAll r
def uptoBulkEntries {H : Type} : List (Lit × DataW H) → Nat
  | [] => 0
  | x :: r => uptoBulkEntry x + uptoBulkEntries r
def uptoBulkEntry {H : Type} : Lit × DataW H → Nat
  | (.string bytes, d) => bytes.length + uptoBulk d + 1
  | (_, d) => uptoBulk d + 1
 end
def uptoSmall : (H : Type) → List (DataW H) → Bool := fun _ ds => decide (uptoBulkAll ds ≤ 1048576)
def OpenSpec.upto (s : _root_.Go.ChangeSpec) : _root_.Go.OpenSpec := { _root_.Go.OpenSpec.ofChange s with cond := some uptoSmall }

/-- 'plumblinelaw24.RefineHolds', WHERE WHAT IT READS IS OF BULK AT MOST 1048576: true; the input reads as it did. -/
def refineHoldsUptoRow : OpenClaim := { program := "ytlcijejaplagbaagreat", sum := "b82901bc751d1272f5d561e04c34b3995091bf9d444bca916c7cedea7f056fb9", func := "plumbline/plumblinelaw24.RefineHolds", spec := "refineHolds", unfollowed := true, recurses := true, loops := true, apart := false, narrowed := true }
def RefineHoldsUptoSaid : Prop := refineHoldsUptoRow.holds Tryz.pinned (OpenSpec.upto refineHoldsSpec)

/-- 'plumblinelaw24.RefineSteps', WHERE WHAT IT READS IS OF BULK AT MOST 1048576: true; the input reads as it did. -/
def refineStepsUptoRow : OpenClaim := { program := "ytlcijejaplagbaagreat", sum := "b82901bc751d1272f5d561e04c34b3995091bf9d444bca916c7cedea7f056fb9", func := "plumbline/plumblinelaw24.RefineSteps", spec := "refineSteps", unfollowed := true, recurses := true, loops := true, apart := false, narrowed := true }
def RefineStepsUptoSaid : Prop := refineStepsUptoRow.holds Tryz.pinned (OpenSpec.upto refineStepsSpec)

/-- 'plumblinelaw24.RefineNew', WHERE WHAT IT READS IS OF BULK AT MOST 1048576: true; the input reads as it did. -/
def refineNewUptoRow : OpenClaim := { program := "ytlcijejaplagbaagreat", sum := "b82901bc751d1272f5d561e04c34b3995091bf9d444bca916c7cedea7f056fb9", func := "plumbline/plumblinelaw24.RefineNew", spec := "refineNew", unfollowed := true, recurses := true, loops := true, apart := false, narrowed := true }
def RefineNewUptoSaid : Prop := refineNewUptoRow.holds Tryz.pinned (OpenSpec.upto refineNewSpec)

/-- 'plumblinelaw24.RefineTight', WHERE WHAT IT READS IS OF BULK AT MOST 1048576: true; the input reads as it did. -/
def refineTightUptoRow : OpenClaim := { program := "ytlcijejaplagbaagreat", sum := "b82901bc751d1272f5d561e04c34b3995091bf9d444bca916c7cedea7f056fb9", func := "plumbline/plumblinelaw24.RefineTight", spec := "refineTight", unfollowed := true, recurses := true, loops := true, apart := false, narrowed := true }
def RefineTightUptoSaid : Prop := refineTightUptoRow.holds Tryz.pinned (OpenSpec.upto refineTightSpec)

end Rows
end Go.Proofs.YtlcijejaplagbaaGreat
