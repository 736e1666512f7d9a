/-
  NARROWER THAN 'FOR EVERY INPUT', by the rows' own cells (each row's printed sentence says how): KripkeGoes: loops · KripkeWalks: loops.
  DERIVED. THE GIVEN ROWS OF THIS SEAT. 2 by the template 'for every input the law returns true; each argument reads behind the call as it read before'; 0 by the template 'total and deterministic' (their statements: YtmohlifepfjmdaaTotals.lean).
  GIVEN WITH THE SEED: the statements are not yours to turn. If you find one false, say at which input.
  Laid BY PROGRAM, IN A SANDBOX (cutbox-rows.mjs): the forced cells as the released guide's own fill.sh prints them over the translation 689fd1073a2a9537… (all of the seat's roots in one cut). By AI agents, Wed Nov 11 2026. No macro, syntax, notation, axiom, sorry.
-/
import Derived.Test.YtmohlifepfjmdaaChecked
import GoSem.Claim
import GoSem.ClaimJoined
import GoSem.ClaimMapViews
import Derived.JoinedTies
import Derived.KernelRfl
namespace Go.Proofs.Ytmohlifepfjmdaa
/- THE CELL 'sum', in the pinned program and in every row, IS THE sha256 OF THE DUMP (.gsa) THAT YtmohlifepfjmdaaProg.lean LOADS. Nothing in Lean hashes anything: it is a label: what it is worth is what the hold of that sum in a sandbox is worth. -/
noncomputable def Try.pinned : Pinned := { name := "ytmohlifepfjmdaa", sum := "689fd1073a2a9537b0481ebe954692d389342532e97c99edbf98bca22b363f8a", checked := Try.checked }
namespace Rows
def none {H : Type} : Left H := { results := [], args := [] }

/-- 'plumblinelaw18.KripkeGoes': WHATEVER THE INPUT: true; the input reads as it did. -/
def kripkeGoesSpec : ChangeSpec := { name := "kripkeGoes", fn := fun _ => fun
  | [d1, d2] => { results := [.lit (.bool true)], args := [d1, d2] }
  | _ => none }
def kripkeGoesRow : OpenClaim := { program := "ytmohlifepfjmdaa", sum := "689fd1073a2a9537b0481ebe954692d389342532e97c99edbf98bca22b363f8a", func := "plumbline/plumblinelaw18.KripkeGoes", spec := "kripkeGoes", unfollowed := true, recurses := true, loops := true, apart := false }
def KripkeGoesSaid : Prop := kripkeGoesRow.holds Try.pinned (OpenSpec.ofChange kripkeGoesSpec)

/-- ITS FALSE NEIGHBOUR: 'it returns false'. Refute it at one input. -/
def kripkeGoesWrong : ChangeSpec := { name := "kripkeGoes", fn := fun _ => fun
  | [d1, d2] => { results := [.lit (.bool false)], args := [d1, d2] }
  | _ => none }
def KripkeGoesWrongFalsely : Prop := kripkeGoesRow.holds Try.pinned (OpenSpec.ofChange kripkeGoesWrong)

/-- 'plumblinelaw18.KripkeWalks': WHATEVER THE INPUT: true; the input reads as it did. -/
def kripkeWalksSpec : ChangeSpec := { name := "kripkeWalks", fn := fun _ => fun
  | [d1, d2, d3, d4] => { results := [.lit (.bool true)], args := [d1, d2, d3, d4] }
  | _ => none }
def kripkeWalksRow : OpenClaim := { program := "ytmohlifepfjmdaa", sum := "689fd1073a2a9537b0481ebe954692d389342532e97c99edbf98bca22b363f8a", func := "plumbline/plumblinelaw18.KripkeWalks", spec := "kripkeWalks", unfollowed := true, recurses := true, loops := true, apart := false }
def KripkeWalksSaid : Prop := kripkeWalksRow.holds Try.pinned (OpenSpec.ofChange kripkeWalksSpec)

/-- ITS FALSE NEIGHBOUR: 'it returns false'. Refute it at one input. -/
def kripkeWalksWrong : ChangeSpec := { name := "kripkeWalks", fn := fun _ => fun
  | [d1, d2, d3, d4] => { results := [.lit (.bool false)], args := [d1, d2, d3, d4] }
  | _ => none }
def KripkeWalksWrongFalsely : Prop := kripkeWalksRow.holds Try.pinned (OpenSpec.ofChange kripkeWalksWrong)

/- THE SECOND FORM. 'bulk': how many values and letters a reading holds, each counted each time it is reached (what is shared counts as often as it is met; a slice's spare places count too). A statement '..UptoSaid' is the law's where the arguments, and the package variables that the reading takes, are together of bulk at most 1048576: NARROWER than '..Said'. Prove '..Said' where nothing that the law and all that it calls make is longer than what came in: it says more and counts as full. Else prove '..UptoSaid'. A law counts once. -/
mutual
def uptoBulk {H : Type} : DataW H → Nat
  | .lit (.string bytes) => bytes.length + 1
  | .lit _ => 1
  | .nil => 1
  | .ptr d => uptoBulk d + 1
  | .slice elems spare => uptoBulkAll elems + uptoBulkAll spare + 1
  | .agg parts => uptoBulkAll parts + 1
  | .iface _ d => uptoBulk d + 1
  | .map entries => uptoBulkEntries entries + 1
  | .held _ => 1
def uptoBulkAll {H : Type} : List (DataW H) → Nat
  | [] => 0
  | d :: r => uptoBulk d + uptoBulkAll r
def uptoBulkEntries {H : Type} : List (Lit × DataW H) → Nat
  | [] => 0
  | x :: r => uptoBulkEntry x + uptoBulkEntries r
def uptoBulkEntry {H : Type} : Lit × DataW H → Nat
  | (.string bytes, d) => bytes.length + uptoBulk d + 1
  | (_, d) => uptoBulk d + 1
 end
def uptoSmall : (H : Type) → List (DataW H) → Bool := fun _ ds => decide (uptoBulkAll ds ≤ 1048576)
def OpenSpec.upto (s : _root_.Go.ChangeSpec) : _root_.Go.OpenSpec := { _root_.Go.OpenSpec.ofChange s with cond := some uptoSmall }

/-- 'plumblinelaw18.KripkeGoes', WHERE WHAT IT READS IS OF BULK AT MOST 1048576: true; the input reads as it did. -/
def kripkeGoesUptoRow : OpenClaim := { program := "ytmohlifepfjmdaa", sum := "689fd1073a2a9537b0481ebe954692d389342532e97c99edbf98bca22b363f8a", func := "plumbline/plumblinelaw18.KripkeGoes", spec := "kripkeGoes", unfollowed := true, recurses := true, loops := true, apart := false, narrowed := true }
def KripkeGoesUptoSaid : Prop := kripkeGoesUptoRow.holds Try.pinned (OpenSpec.upto kripkeGoesSpec)

/-- 'plumblinelaw18.KripkeWalks', WHERE WHAT IT READS IS OF BULK AT MOST 1048576: true; the input reads as it did. -/
def kripkeWalksUptoRow : OpenClaim := { program := "ytmohlifepfjmdaa", sum := "689fd1073a2a9537b0481ebe954692d389342532e97c99edbf98bca22b363f8a", func := "plumbline/plumblinelaw18.KripkeWalks", spec := "kripkeWalks", unfollowed := true, recurses := true, loops := true, apart := false, narrowed := true }
def KripkeWalksUptoSaid : Prop := kripkeWalksUptoRow.holds Try.pinned (OpenSpec.upto kripkeWalksSpec)

end Rows
end Go.Proofs.Ytmohlifepfjmdaa
