/-
  NARROWER THAN 'FOR EVERY INPUT', by the rows' own cells (each row's printed sentence says how): WpSteps: loops · WpCans: loops · WpPres: loops · WpPlaces: loops.
  DERIVED. THE GIVEN ROWS OF THIS SEAT. 4 by the template 'for every input the law returns true; each argument reads behind the call as it read before'; 0 by the template 'total and deterministic' (their statements: YtckmanpooapkpaaGreatTotals.lean).
  GIVEN WITH THE SEED: the statements are not yours to turn. If you find one false, say at which input.
  Laid BY PROGRAM, IN A SANDBOX (cutbox-rows.mjs): the forced cells as the released guide's own fill.sh prints them over the translation 6c92c1668fb1b5c5… (all of the seat's roots in one cut). By AI agents, Wed Nov 11 2026. No macro, syntax, notation, axiom, sorry.
-/
import Derived.Test.YtckmanpooapkpaaGreatChecked
import GoSem.Claim
import GoSem.ClaimJoined
import GoSem.ClaimMapViews
import Derived.JoinedTies
import Derived.KernelRfl
namespace Go.Proofs.YtckmanpooapkpaaGreat
/- THE CELL 'sum', in the pinned program and in every row, IS THE sha256 OF THE DUMP (.gsa) THAT YtckmanpooapkpaaGreatProg.lean LOADS. Nothing in Lean hashes anything: it is a label: what it is worth is what the hold of that sum in a sandbox is worth. -/
noncomputable def Tryz.pinned : Pinned := { name := "ytckmanpooapkpaagreat", sum := "6c92c1668fb1b5c5b5a297318661c49e045982d9e503d5be51dc736762557313", checked := Tryz.checked }
namespace Rows
def none {H : Type} : Left H := { results := [], args := [] }

/-- 'plumblinelaw20.WpSteps': WHATEVER THE INPUT: true; the input reads as it did. -/
def wpStepsSpec : ChangeSpec := { name := "wpSteps", fn := fun _ => fun
  | [d1, d2, d3, d4, d5] => { results := [.lit (.bool true)], args := [d1, d2, d3, d4, d5] }
  | _ => none }
def wpStepsRow : OpenClaim := { program := "ytckmanpooapkpaagreat", sum := "6c92c1668fb1b5c5b5a297318661c49e045982d9e503d5be51dc736762557313", func := "plumbline/plumblinelaw20.WpSteps", spec := "wpSteps", unfollowed := true, recurses := true, loops := true, apart := false }
def WpStepsSaid : Prop := wpStepsRow.holds Tryz.pinned (OpenSpec.ofChange wpStepsSpec)

/-- ITS FALSE NEIGHBOUR: 'it returns false'. Refute it at one input. -/
def wpStepsWrong : ChangeSpec := { name := "wpSteps", fn := fun _ => fun
  | [d1, d2, d3, d4, d5] => { results := [.lit (.bool false)], args := [d1, d2, d3, d4, d5] }
  | _ => none }
def WpStepsWrongFalsely : Prop := wpStepsRow.holds Tryz.pinned (OpenSpec.ofChange wpStepsWrong)

/-- 'plumblinelaw20.WpCans': WHATEVER THE INPUT: true; the input reads as it did. -/
def wpCansSpec : ChangeSpec := { name := "wpCans", fn := fun _ => fun
  | [d1, d2, d3, d4] => { results := [.lit (.bool true)], args := [d1, d2, d3, d4] }
  | _ => none }
def wpCansRow : OpenClaim := { program := "ytckmanpooapkpaagreat", sum := "6c92c1668fb1b5c5b5a297318661c49e045982d9e503d5be51dc736762557313", func := "plumbline/plumblinelaw20.WpCans", spec := "wpCans", unfollowed := true, recurses := true, loops := true, apart := false }
def WpCansSaid : Prop := wpCansRow.holds Tryz.pinned (OpenSpec.ofChange wpCansSpec)

/-- ITS FALSE NEIGHBOUR: 'it returns false'. Refute it at one input. -/
def wpCansWrong : ChangeSpec := { name := "wpCans", fn := fun _ => fun
  | [d1, d2, d3, d4] => { results := [.lit (.bool false)], args := [d1, d2, d3, d4] }
  | _ => none }
def WpCansWrongFalsely : Prop := wpCansRow.holds Tryz.pinned (OpenSpec.ofChange wpCansWrong)

/-- 'plumblinelaw20.WpPres': WHATEVER THE INPUT: true; the input reads as it did. -/
def wpPresSpec : ChangeSpec := { name := "wpPres", fn := fun _ => fun
  | [d1, d2, d3, d4, d5] => { results := [.lit (.bool true)], args := [d1, d2, d3, d4, d5] }
  | _ => none }
def wpPresRow : OpenClaim := { program := "ytckmanpooapkpaagreat", sum := "6c92c1668fb1b5c5b5a297318661c49e045982d9e503d5be51dc736762557313", func := "plumbline/plumblinelaw20.WpPres", spec := "wpPres", unfollowed := true, recurses := true, loops := true, apart := false }
def WpPresSaid : Prop := wpPresRow.holds Tryz.pinned (OpenSpec.ofChange wpPresSpec)

/-- ITS FALSE NEIGHBOUR: 'it returns false'. Refute it at one input. -/
def wpPresWrong : ChangeSpec := { name := "wpPres", fn := fun _ => fun
  | [d1, d2, d3, d4, d5] => { results := [.lit (.bool false)], args := [d1, d2, d3, d4, d5] }
  | _ => none }
def WpPresWrongFalsely : Prop := wpPresRow.holds Tryz.pinned (OpenSpec.ofChange wpPresWrong)

/-- 'plumblinelaw20.WpPlaces': WHATEVER THE INPUT: true; the input reads as it did. -/
def wpPlacesSpec : ChangeSpec := { name := "wpPlaces", fn := fun _ => fun
  | [d1, d2, d3, d4] => { results := [.lit (.bool true)], args := [d1, d2, d3, d4] }
  | _ => none }
def wpPlacesRow : OpenClaim := { program := "ytckmanpooapkpaagreat", sum := "6c92c1668fb1b5c5b5a297318661c49e045982d9e503d5be51dc736762557313", func := "plumbline/plumblinelaw20.WpPlaces", spec := "wpPlaces", unfollowed := true, recurses := true, loops := true, apart := false }
def WpPlacesSaid : Prop := wpPlacesRow.holds Tryz.pinned (OpenSpec.ofChange wpPlacesSpec)

/-- ITS FALSE NEIGHBOUR: 'it returns false'. Refute it at one input. -/
def wpPlacesWrong : ChangeSpec := { name := "wpPlaces", fn := fun _ => fun
  | [d1, d2, d3, d4] => { results := [.lit (.bool false)], args := [d1, d2, d3, d4] }
  | _ => none }
def WpPlacesWrongFalsely : Prop := wpPlacesRow.holds Tryz.pinned (OpenSpec.ofChange wpPlacesWrong)

/- THE SECOND FORM. 'bulk': how many values and letters a reading holds, each counted each time it is reached (what is shared counts as often as it is met; a slice's spare places count too). A statement '..UptoSaid' is the law's where the arguments, and the package variables that the reading takes, are together of bulk at most 1048576: NARROWER than '..Said'. Prove '..Said' where nothing that the law and all that it calls make is longer than what came in: it says more and counts as full. Else prove '..UptoSaid'. A law counts once. -/
mutual
def uptoBulk {H : Type} : DataW H → Nat
  | .lit (.string bytes) => bytes.length + 1
  | .lit _ => 1
  | .nil => 1
  | .ptr d => uptoBulk d + 1
  | .slice elems spare => uptoBulkAll elems + uptoBulkAll spare + 1
  | .agg parts => uptoBulkAll parts + 1
  | .iface _ d => uptoBulk d + 1
  | .map entries => uptoBulkEntries entries + 1
  | .held _ => 1
def uptoBulkAll {H : Type} : List (DataW H) → Nat
  | [] => 0
  | d :: r => uptoBulk d + uptoBulkAll r
def uptoBulkEntries {H : Type} : List (Lit × DataW H) → Nat
  | [] => 0
  | x :: r => uptoBulkEntry x + uptoBulkEntries r
def uptoBulkEntry {H : Type} : Lit × DataW H → Nat
  | (.string bytes, d) => bytes.length + uptoBulk d + 1
  | (_, d) => uptoBulk d + 1
 end
def uptoSmall : (H : Type) → List (DataW H) → Bool := fun _ ds => decide (uptoBulkAll ds ≤ 1048576)
def OpenSpec.upto (s : _root_.Go.ChangeSpec) : _root_.Go.OpenSpec := { _root_.Go.OpenSpec.ofChange s with cond := some uptoSmall }

/-- 'plumblinelaw20.WpSteps', WHERE WHAT IT READS IS OF BULK AT MOST 1048576: true; the input reads as it did. -/
def wpStepsUptoRow : OpenClaim := { program := "ytckmanpooapkpaagreat", sum := "6c92c1668fb1b5c5b5a297318661c49e045982d9e503d5be51dc736762557313", func := "plumbline/plumblinelaw20.WpSteps", spec := "wpSteps", unfollowed := true, recurses := true, loops := true, apart := false, narrowed := true }
def WpStepsUptoSaid : Prop := wpStepsUptoRow.holds Tryz.pinned (OpenSpec.upto wpStepsSpec)

/-- 'plumblinelaw20.WpCans', WHERE WHAT IT READS IS OF BULK AT MOST 1048576: true; the input reads as it did. -/
def wpCansUptoRow : OpenClaim := { program := "ytckmanpooapkpaagreat", sum := "6c92c1668fb1b5c5b5a297318661c49e045982d9e503d5be51dc736762557313", func := "plumbline/plumblinelaw20.WpCans", spec := "wpCans", unfollowed := true, recurses := true, loops := true, apart := false, narrowed := true }
def WpCansUptoSaid : Prop := wpCansUptoRow.holds Tryz.pinned (OpenSpec.upto wpCansSpec)

/-- 'plumblinelaw20.WpPres', WHERE WHAT IT READS IS OF BULK AT MOST 1048576: true; the input reads as it did. -/
def wpPresUptoRow : OpenClaim := { program := "ytckmanpooapkpaagreat", sum := "6c92c1668fb1b5c5b5a297318661c49e045982d9e503d5be51dc736762557313", func := "plumbline/plumblinelaw20.WpPres", spec := "wpPres", unfollowed := true, recurses := true, loops := true, apart := false, narrowed := true }
def WpPresUptoSaid : Prop := wpPresUptoRow.holds Tryz.pinned (OpenSpec.upto wpPresSpec)

/-- 'plumblinelaw20.WpPlaces', WHERE WHAT IT READS IS OF BULK AT MOST 1048576: true; the input reads as it did. -/
def wpPlacesUptoRow : OpenClaim := { program := "ytckmanpooapkpaagreat", sum := "6c92c1668fb1b5c5b5a297318661c49e045982d9e503d5be51dc736762557313", func := "plumbline/plumblinelaw20.WpPlaces", spec := "wpPlaces", unfollowed := true, recurses := true, loops := true, apart := false, narrowed := true }
def WpPlacesUptoSaid : Prop := wpPlacesUptoRow.holds Tryz.pinned (OpenSpec.upto wpPlacesSpec)

end Rows
end Go.Proofs.YtckmanpooapkpaaGreat
