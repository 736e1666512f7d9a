/-
  NARROWER THAN 'FOR EVERY INPUT', by the rows' own cells (each row's printed sentence says how): AbstrTells: loops · AbstrLetters: loops.
  DERIVED. THE GIVEN ROWS OF THIS SEAT. 3 by the template 'for every input the law returns true; each argument reads behind the call as it read before'; 0 by the template 'total and deterministic' (their statements: YtcppcnfmgpphcaaGreatTotals.lean).
  GIVEN WITH THE SEED: the statements are not yours to turn. If you find one false, say at which input.
  Laid BY PROGRAM, IN A SANDBOX (cutbox-rows.mjs): the forced cells as the released guide's own fill.sh prints them over the translation 0f3200e1a8972266… (all of the seat's roots in one cut). By AI agents, Wed Nov 11 2026. No macro, syntax, notation, axiom, sorry.
-/
import Derived.Test.YtcppcnfmgpphcaaGreatChecked
import GoSem.Claim
import GoSem.ClaimJoined
import GoSem.ClaimMapViews
import Derived.JoinedTies
import Derived.KernelRfl
namespace Go.Proofs.YtcppcnfmgpphcaaGreat
/- THE CELL 'sum', in the pinned program and in every row, IS THE sha256 OF THE DUMP (.gsa) THAT YtcppcnfmgpphcaaGreatProg.lean LOADS. Nothing in Lean hashes anything: it is a label: what it is worth is what the hold of that sum in a sandbox is worth. -/
noncomputable def Tryz.pinned : Pinned := { name := "ytcppcnfmgpphcaagreat", sum := "0f3200e1a8972266f6b812cc1306f757647dd46d722f6077f633a68ae48b0d4b", checked := Tryz.checked }
namespace Rows
def none {H : Type} : Left H := { results := [], args := [] }

/-- 'plumblinelaw21.AbstrTells': WHATEVER THE INPUT: true; the input reads as it did. -/
def abstrTellsSpec : ChangeSpec := { name := "abstrTells", fn := fun _ => fun
  | [d1, d2, d3, d4, d5] => { results := [.lit (.bool true)], args := [d1, d2, d3, d4, d5] }
  | _ => none }
def abstrTellsRow : OpenClaim := { program := "ytcppcnfmgpphcaagreat", sum := "0f3200e1a8972266f6b812cc1306f757647dd46d722f6077f633a68ae48b0d4b", func := "plumbline/plumblinelaw21.AbstrTells", spec := "abstrTells", unfollowed := true, recurses := true, loops := true, apart := false }
def AbstrTellsSaid : Prop := abstrTellsRow.holds Tryz.pinned (OpenSpec.ofChange abstrTellsSpec)

/-- ITS FALSE NEIGHBOUR: 'it returns false'. Refute it at one input. -/
def abstrTellsWrong : ChangeSpec := { name := "abstrTells", fn := fun _ => fun
  | [d1, d2, d3, d4, d5] => { results := [.lit (.bool false)], args := [d1, d2, d3, d4, d5] }
  | _ => none }
def AbstrTellsWrongFalsely : Prop := abstrTellsRow.holds Tryz.pinned (OpenSpec.ofChange abstrTellsWrong)

/-- 'plumblinelaw21.AbstrCubes': WHATEVER THE INPUT: true; the input reads as it did. -/
def abstrCubesSpec : ChangeSpec := { name := "abstrCubes", fn := fun _ => fun
  | [d1, d2, d3] => { results := [.lit (.bool true)], args := [d1, d2, d3] }
  | _ => none }
def abstrCubesRow : OpenClaim := { program := "ytcppcnfmgpphcaagreat", sum := "0f3200e1a8972266f6b812cc1306f757647dd46d722f6077f633a68ae48b0d4b", func := "plumbline/plumblinelaw21.AbstrCubes", spec := "abstrCubes", unfollowed := true, recurses := true, apart := false }
def AbstrCubesSaid : Prop := abstrCubesRow.holds Tryz.pinned (OpenSpec.ofChange abstrCubesSpec)

/-- ITS FALSE NEIGHBOUR: 'it returns false'. Refute it at one input. -/
def abstrCubesWrong : ChangeSpec := { name := "abstrCubes", fn := fun _ => fun
  | [d1, d2, d3] => { results := [.lit (.bool false)], args := [d1, d2, d3] }
  | _ => none }
def AbstrCubesWrongFalsely : Prop := abstrCubesRow.holds Tryz.pinned (OpenSpec.ofChange abstrCubesWrong)

/-- 'plumblinelaw21.AbstrLetters': WHATEVER THE INPUT: true; the input reads as it did. -/
def abstrLettersSpec : ChangeSpec := { name := "abstrLetters", fn := fun _ => fun
  | [d1, d2] => { results := [.lit (.bool true)], args := [d1, d2] }
  | _ => none }
def abstrLettersRow : OpenClaim := { program := "ytcppcnfmgpphcaagreat", sum := "0f3200e1a8972266f6b812cc1306f757647dd46d722f6077f633a68ae48b0d4b", func := "plumbline/plumblinelaw21.AbstrLetters", spec := "abstrLetters", unfollowed := true, recurses := true, loops := true, apart := false }
def AbstrLettersSaid : Prop := abstrLettersRow.holds Tryz.pinned (OpenSpec.ofChange abstrLettersSpec)

/-- ITS FALSE NEIGHBOUR: 'it returns false'. Refute it at one input. -/
def abstrLettersWrong : ChangeSpec := { name := "abstrLetters", fn := fun _ => fun
  | [d1, d2] => { results := [.lit (.bool false)], args := [d1, d2] }
  | _ => none }
def AbstrLettersWrongFalsely : Prop := abstrLettersRow.holds Tryz.pinned (OpenSpec.ofChange abstrLettersWrong)

/- THE SECOND FORM. 'bulk': how many values and letters a reading holds, each counted each time it is reached (what is shared counts as often as it is met; a slice's spare places count too). A statement '..UptoSaid' is the law's where the arguments, and the package variables that the reading takes, are together of bulk at most 1048576: NARROWER than '..Said'. Prove '..Said' where nothing that the law and all that it calls make is longer than what came in: it says more and counts as full. Else prove '..UptoSaid'. A law counts once. -/
mutual
def uptoBulk {H : Type} : DataW H → Nat
  | .lit (.string bytes) => bytes.length + 1
  | .lit _ => 1
  | .nil => 1
  | .ptr d => uptoBulk d + 1
  | .slice elems spare => uptoBulkAll elems + uptoBulkAll spare + 1
  | .agg parts => uptoBulkAll parts + 1
  | .iface _ d => uptoBulk d + 1
  | .map entries => uptoBulkEntries entries + 1
  | .held _ => 1
def uptoBulkAll {H : Type} : List (DataW H) → Nat
  | [] => 0
  | d :: r => uptoBulk d + uptoBulkAll r
def uptoBulkEntries {H : Type} : List (Lit × DataW H) → Nat
  | [] => 0
  | x :: r => uptoBulkEntry x + uptoBulkEntries r
def uptoBulkEntry {H : Type} : Lit × DataW H → Nat
  | (.string bytes, d) => bytes.length + uptoBulk d + 1
  | (_, d) => uptoBulk d + 1
 end
def uptoSmall : (H : Type) → List (DataW H) → Bool := fun _ ds => decide (uptoBulkAll ds ≤ 1048576)
def OpenSpec.upto (s : _root_.Go.ChangeSpec) : _root_.Go.OpenSpec := { _root_.Go.OpenSpec.ofChange s with cond := some uptoSmall }

/-- 'plumblinelaw21.AbstrTells', WHERE WHAT IT READS IS OF BULK AT MOST 1048576: true; the input reads as it did. -/
def abstrTellsUptoRow : OpenClaim := { program := "ytcppcnfmgpphcaagreat", sum := "0f3200e1a8972266f6b812cc1306f757647dd46d722f6077f633a68ae48b0d4b", func := "plumbline/plumblinelaw21.AbstrTells", spec := "abstrTells", unfollowed := true, recurses := true, loops := true, apart := false, narrowed := true }
def AbstrTellsUptoSaid : Prop := abstrTellsUptoRow.holds Tryz.pinned (OpenSpec.upto abstrTellsSpec)

/-- 'plumblinelaw21.AbstrCubes', WHERE WHAT IT READS IS OF BULK AT MOST 1048576: true; the input reads as it did. -/
def abstrCubesUptoRow : OpenClaim := { program := "ytcppcnfmgpphcaagreat", sum := "0f3200e1a8972266f6b812cc1306f757647dd46d722f6077f633a68ae48b0d4b", func := "plumbline/plumblinelaw21.AbstrCubes", spec := "abstrCubes", unfollowed := true, recurses := true, apart := false, narrowed := true }
def AbstrCubesUptoSaid : Prop := abstrCubesUptoRow.holds Tryz.pinned (OpenSpec.upto abstrCubesSpec)

/-- 'plumblinelaw21.AbstrLetters', WHERE WHAT IT READS IS OF BULK AT MOST 1048576: true; the input reads as it did. -/
def abstrLettersUptoRow : OpenClaim := { program := "ytcppcnfmgpphcaagreat", sum := "0f3200e1a8972266f6b812cc1306f757647dd46d722f6077f633a68ae48b0d4b", func := "plumbline/plumblinelaw21.AbstrLetters", spec := "abstrLetters", unfollowed := true, recurses := true, loops := true, apart := false, narrowed := true }
def AbstrLettersUptoSaid : Prop := abstrLettersUptoRow.holds Tryz.pinned (OpenSpec.upto abstrLettersSpec)

end Rows
end Go.Proofs.YtcppcnfmgpphcaaGreat
