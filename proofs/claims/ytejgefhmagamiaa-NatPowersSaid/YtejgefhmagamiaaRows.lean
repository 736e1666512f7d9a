/-
  No cell of these rows narrows 'for every input' (looked for: loops, veiled, ifaces, maps, wideKeys, modest, calm, conditions, laid).
  DERIVED. THE GIVEN ROWS OF THIS SEAT. 11 by the template 'for every input the law returns true; each argument reads behind the call as it read before'; 0 by the template 'total and deterministic' (their statements: YtejgefhmagamiaaTotals.lean).
  GIVEN WITH THE SEED: the statements are not yours to turn. If you find one false, say at which input.
  Laid BY PROGRAM, IN A SANDBOX (cutbox-rows.mjs): the forced cells as the released guide's own fill.sh prints them over the translation bc693e534d48a1bc… (all of the seat's roots in one cut). By AI agents, Wed Nov 11 2026. No macro, syntax, notation, axiom, sorry.
-/
import Derived.Test.YtejgefhmagamiaaChecked
import GoSem.Claim
import GoSem.ClaimJoined
import GoSem.ClaimMapViews
import Derived.JoinedTies
import Derived.KernelRfl
namespace Go.Proofs.Ytejgefhmagamiaa
/- THE CELL 'sum', in the pinned program and in every row, IS THE sha256 OF THE DUMP (.gsa) THAT YtejgefhmagamiaaProg.lean LOADS. Nothing in Lean hashes anything: it is a label: what it is worth is what the hold of that sum in a sandbox is worth. -/
noncomputable def Try.pinned : Pinned := { name := "ytejgefhmagamiaa", sum := "bc693e534d48a1bcfcedd5bbb28a5cea7f9bdc2e835dbae9b17d7ac9150a0a32", checked := Try.checked }
namespace Rows
def none {H : Type} : Left H := { results := [], args := [] }

/-- 'plumblinelaw01.NatSums': WHATEVER THE INPUT: true; the input reads as it did. -/
def natSumsSpec : ChangeSpec := { name := "natSums", fn := fun _ => fun
  | [d1, d2] => { results := [.lit (.bool true)], args := [d1, d2] }
  | _ => none }
def natSumsRow : OpenClaim := { program := "ytejgefhmagamiaa", sum := "bc693e534d48a1bcfcedd5bbb28a5cea7f9bdc2e835dbae9b17d7ac9150a0a32", func := "plumbline/plumblinelaw01.NatSums", spec := "natSums", apart := false }
def NatSumsSaid : Prop := natSumsRow.holds Try.pinned (OpenSpec.ofChange natSumsSpec)

/-- ITS FALSE NEIGHBOUR: 'it returns false'. Refute it at one input. -/
def natSumsWrong : ChangeSpec := { name := "natSums", fn := fun _ => fun
  | [d1, d2] => { results := [.lit (.bool false)], args := [d1, d2] }
  | _ => none }
def NatSumsWrongFalsely : Prop := natSumsRow.holds Try.pinned (OpenSpec.ofChange natSumsWrong)

/-- 'plumblinelaw01.NatSumsBack': WHATEVER THE INPUT: true; the input reads as it did. -/
def natSumsBackSpec : ChangeSpec := { name := "natSumsBack", fn := fun _ => fun
  | [d1, d2, d3] => { results := [.lit (.bool true)], args := [d1, d2, d3] }
  | _ => none }
def natSumsBackRow : OpenClaim := { program := "ytejgefhmagamiaa", sum := "bc693e534d48a1bcfcedd5bbb28a5cea7f9bdc2e835dbae9b17d7ac9150a0a32", func := "plumbline/plumblinelaw01.NatSumsBack", spec := "natSumsBack", apart := false }
def NatSumsBackSaid : Prop := natSumsBackRow.holds Try.pinned (OpenSpec.ofChange natSumsBackSpec)

/-- ITS FALSE NEIGHBOUR: 'it returns false'. Refute it at one input. -/
def natSumsBackWrong : ChangeSpec := { name := "natSumsBack", fn := fun _ => fun
  | [d1, d2, d3] => { results := [.lit (.bool false)], args := [d1, d2, d3] }
  | _ => none }
def NatSumsBackWrongFalsely : Prop := natSumsBackRow.holds Try.pinned (OpenSpec.ofChange natSumsBackWrong)

/-- 'plumblinelaw01.NatTexts': WHATEVER THE INPUT: true; the input reads as it did. -/
def natTextsSpec : ChangeSpec := { name := "natTexts", fn := fun _ => fun
  | [d1, d2] => { results := [.lit (.bool true)], args := [d1, d2] }
  | _ => none }
def natTextsRow : OpenClaim := { program := "ytejgefhmagamiaa", sum := "bc693e534d48a1bcfcedd5bbb28a5cea7f9bdc2e835dbae9b17d7ac9150a0a32", func := "plumbline/plumblinelaw01.NatTexts", spec := "natTexts", apart := false }
def NatTextsSaid : Prop := natTextsRow.holds Try.pinned (OpenSpec.ofChange natTextsSpec)

/-- ITS FALSE NEIGHBOUR: 'it returns false'. Refute it at one input. -/
def natTextsWrong : ChangeSpec := { name := "natTexts", fn := fun _ => fun
  | [d1, d2] => { results := [.lit (.bool false)], args := [d1, d2] }
  | _ => none }
def NatTextsWrongFalsely : Prop := natTextsRow.holds Try.pinned (OpenSpec.ofChange natTextsWrong)

/-- 'plumblinelaw01.NatTold': WHATEVER THE INPUT: true; the input reads as it did. -/
def natToldSpec : ChangeSpec := { name := "natTold", fn := fun _ => fun
  | [d1, d2, d3] => { results := [.lit (.bool true)], args := [d1, d2, d3] }
  | _ => none }
def natToldRow : OpenClaim := { program := "ytejgefhmagamiaa", sum := "bc693e534d48a1bcfcedd5bbb28a5cea7f9bdc2e835dbae9b17d7ac9150a0a32", func := "plumbline/plumblinelaw01.NatTold", spec := "natTold", apart := false }
def NatToldSaid : Prop := natToldRow.holds Try.pinned (OpenSpec.ofChange natToldSpec)

/-- ITS FALSE NEIGHBOUR: 'it returns false'. Refute it at one input. -/
def natToldWrong : ChangeSpec := { name := "natTold", fn := fun _ => fun
  | [d1, d2, d3] => { results := [.lit (.bool false)], args := [d1, d2, d3] }
  | _ => none }
def NatToldWrongFalsely : Prop := natToldRow.holds Try.pinned (OpenSpec.ofChange natToldWrong)

/-- 'plumblinelaw01.NatMuls': WHATEVER THE INPUT: true; the input reads as it did. -/
def natMulsSpec : ChangeSpec := { name := "natMuls", fn := fun _ => fun
  | [d1, d2] => { results := [.lit (.bool true)], args := [d1, d2] }
  | _ => none }
def natMulsRow : OpenClaim := { program := "ytejgefhmagamiaa", sum := "bc693e534d48a1bcfcedd5bbb28a5cea7f9bdc2e835dbae9b17d7ac9150a0a32", func := "plumbline/plumblinelaw01.NatMuls", spec := "natMuls", recurses := true, apart := false }
def NatMulsSaid : Prop := natMulsRow.holds Try.pinned (OpenSpec.ofChange natMulsSpec)

/-- ITS FALSE NEIGHBOUR: 'it returns false'. Refute it at one input. -/
def natMulsWrong : ChangeSpec := { name := "natMuls", fn := fun _ => fun
  | [d1, d2] => { results := [.lit (.bool false)], args := [d1, d2] }
  | _ => none }
def NatMulsWrongFalsely : Prop := natMulsRow.holds Try.pinned (OpenSpec.ofChange natMulsWrong)

/-- 'plumblinelaw01.NatDivs': WHATEVER THE INPUT: true; the input reads as it did. -/
def natDivsSpec : ChangeSpec := { name := "natDivs", fn := fun _ => fun
  | [d1, d2] => { results := [.lit (.bool true)], args := [d1, d2] }
  | _ => none }
def natDivsRow : OpenClaim := { program := "ytejgefhmagamiaa", sum := "bc693e534d48a1bcfcedd5bbb28a5cea7f9bdc2e835dbae9b17d7ac9150a0a32", func := "plumbline/plumblinelaw01.NatDivs", spec := "natDivs", recurses := true, apart := false }
def NatDivsSaid : Prop := natDivsRow.holds Try.pinned (OpenSpec.ofChange natDivsSpec)

/-- ITS FALSE NEIGHBOUR: 'it returns false'. Refute it at one input. -/
def natDivsWrong : ChangeSpec := { name := "natDivs", fn := fun _ => fun
  | [d1, d2] => { results := [.lit (.bool false)], args := [d1, d2] }
  | _ => none }
def NatDivsWrongFalsely : Prop := natDivsRow.holds Try.pinned (OpenSpec.ofChange natDivsWrong)

/-- 'plumblinelaw01.NatProductsBack': WHATEVER THE INPUT: true; the input reads as it did. -/
def natProductsBackSpec : ChangeSpec := { name := "natProductsBack", fn := fun _ => fun
  | [d1, d2, d3] => { results := [.lit (.bool true)], args := [d1, d2, d3] }
  | _ => none }
def natProductsBackRow : OpenClaim := { program := "ytejgefhmagamiaa", sum := "bc693e534d48a1bcfcedd5bbb28a5cea7f9bdc2e835dbae9b17d7ac9150a0a32", func := "plumbline/plumblinelaw01.NatProductsBack", spec := "natProductsBack", recurses := true, apart := false }
def NatProductsBackSaid : Prop := natProductsBackRow.holds Try.pinned (OpenSpec.ofChange natProductsBackSpec)

/-- ITS FALSE NEIGHBOUR: 'it returns false'. Refute it at one input. -/
def natProductsBackWrong : ChangeSpec := { name := "natProductsBack", fn := fun _ => fun
  | [d1, d2, d3] => { results := [.lit (.bool false)], args := [d1, d2, d3] }
  | _ => none }
def NatProductsBackWrongFalsely : Prop := natProductsBackRow.holds Try.pinned (OpenSpec.ofChange natProductsBackWrong)

/-- 'plumblinelaw01.NatDivides': WHATEVER THE INPUT: true; the input reads as it did. -/
def natDividesSpec : ChangeSpec := { name := "natDivides", fn := fun _ => fun
  | [d1, d2] => { results := [.lit (.bool true)], args := [d1, d2] }
  | _ => none }
def natDividesRow : OpenClaim := { program := "ytejgefhmagamiaa", sum := "bc693e534d48a1bcfcedd5bbb28a5cea7f9bdc2e835dbae9b17d7ac9150a0a32", func := "plumbline/plumblinelaw01.NatDivides", spec := "natDivides", recurses := true, apart := false }
def NatDividesSaid : Prop := natDividesRow.holds Try.pinned (OpenSpec.ofChange natDividesSpec)

/-- ITS FALSE NEIGHBOUR: 'it returns false'. Refute it at one input. -/
def natDividesWrong : ChangeSpec := { name := "natDivides", fn := fun _ => fun
  | [d1, d2] => { results := [.lit (.bool false)], args := [d1, d2] }
  | _ => none }
def NatDividesWrongFalsely : Prop := natDividesRow.holds Try.pinned (OpenSpec.ofChange natDividesWrong)

/-- 'plumblinelaw01.NatMoves': WHATEVER THE INPUT: true; the input reads as it did. -/
def natMovesSpec : ChangeSpec := { name := "natMoves", fn := fun _ => fun
  | [d1, d2] => { results := [.lit (.bool true)], args := [d1, d2] }
  | _ => none }
def natMovesRow : OpenClaim := { program := "ytejgefhmagamiaa", sum := "bc693e534d48a1bcfcedd5bbb28a5cea7f9bdc2e835dbae9b17d7ac9150a0a32", func := "plumbline/plumblinelaw01.NatMoves", spec := "natMoves", recurses := true, apart := false }
def NatMovesSaid : Prop := natMovesRow.holds Try.pinned (OpenSpec.ofChange natMovesSpec)

/-- ITS FALSE NEIGHBOUR: 'it returns false'. Refute it at one input. -/
def natMovesWrong : ChangeSpec := { name := "natMoves", fn := fun _ => fun
  | [d1, d2] => { results := [.lit (.bool false)], args := [d1, d2] }
  | _ => none }
def NatMovesWrongFalsely : Prop := natMovesRow.holds Try.pinned (OpenSpec.ofChange natMovesWrong)

/-- 'plumblinelaw01.NatPowers': WHATEVER THE INPUT: true; the input reads as it did. -/
def natPowersSpec : ChangeSpec := { name := "natPowers", fn := fun _ => fun
  | [d1, d2] => { results := [.lit (.bool true)], args := [d1, d2] }
  | _ => none }
def natPowersRow : OpenClaim := { program := "ytejgefhmagamiaa", sum := "bc693e534d48a1bcfcedd5bbb28a5cea7f9bdc2e835dbae9b17d7ac9150a0a32", func := "plumbline/plumblinelaw01.NatPowers", spec := "natPowers", recurses := true, apart := false }
def NatPowersSaid : Prop := natPowersRow.holds Try.pinned (OpenSpec.ofChange natPowersSpec)

/-- ITS FALSE NEIGHBOUR: 'it returns false'. Refute it at one input. -/
def natPowersWrong : ChangeSpec := { name := "natPowers", fn := fun _ => fun
  | [d1, d2] => { results := [.lit (.bool false)], args := [d1, d2] }
  | _ => none }
def NatPowersWrongFalsely : Prop := natPowersRow.holds Try.pinned (OpenSpec.ofChange natPowersWrong)

/-- 'plumblinelaw01.NatRoots': WHATEVER THE INPUT: true; the input reads as it did. -/
def natRootsSpec : ChangeSpec := { name := "natRoots", fn := fun _ => fun
  | [d] => { results := [.lit (.bool true)], args := [d] }
  | _ => none }
def natRootsRow : OpenClaim := { program := "ytejgefhmagamiaa", sum := "bc693e534d48a1bcfcedd5bbb28a5cea7f9bdc2e835dbae9b17d7ac9150a0a32", func := "plumbline/plumblinelaw01.NatRoots", spec := "natRoots", recurses := true, apart := false }
def NatRootsSaid : Prop := natRootsRow.holds Try.pinned (OpenSpec.ofChange natRootsSpec)

/-- ITS FALSE NEIGHBOUR: 'it returns false'. Refute it at one input. -/
def natRootsWrong : ChangeSpec := { name := "natRoots", fn := fun _ => fun
  | [d] => { results := [.lit (.bool false)], args := [d] }
  | _ => none }
def NatRootsWrongFalsely : Prop := natRootsRow.holds Try.pinned (OpenSpec.ofChange natRootsWrong)

/- THE SECOND FORM. 'bulk': how many values and letters a reading holds, each counted each time it is reached (what is shared counts as often as it is met; a slice's spare places count too). A statement '..UptoSaid' is the law's where the arguments, and the package variables that the reading takes, are together of bulk at most 1048576: NARROWER than '..Said'. Prove '..Said' where nothing that the law and all that it calls make is longer than what came in: it says more and counts as full. Else prove '..UptoSaid'. A law counts once. -/
mutual
def uptoBulk {H : Type} : DataW H → Nat
  | .lit (.string bytes) => bytes.length + 1
  | .lit _ => 1
  | .nil => 1
  | .ptr d => uptoBulk d + 1
  | .slice elems spare => uptoBulkAll elems + uptoBulkAll spare + 1
  | .agg parts => uptoBulkAll parts + 1
  | .iface _ d => uptoBulk d + 1
  | .map entries => uptoBulkEntries entries + 1
  | .held _ => 1
def uptoBulkAll {H : Type} : List (DataW H) → Nat
  | [] => 0
  | d :: r => uptoBulk d + uptoBulkAll r
def uptoBulkEntries {H : Type} : List (Lit × DataW H) → Nat
  | [] => 0
  | x :: r => uptoBulkEntry x + uptoBulkEntries r
def uptoBulkEntry {H : Type} : Lit × DataW H → Nat
  | (.string bytes, d) => bytes.length + uptoBulk d + 1
  | (_, d) => uptoBulk d + 1
 end
def uptoSmall : (H : Type) → List (DataW H) → Bool := fun _ ds => decide (uptoBulkAll ds ≤ 1048576)
def OpenSpec.upto (s : _root_.Go.ChangeSpec) : _root_.Go.OpenSpec := { _root_.Go.OpenSpec.ofChange s with cond := some uptoSmall }

/-- 'plumblinelaw01.NatSums', WHERE WHAT IT READS IS OF BULK AT MOST 1048576: true; the input reads as it did. -/
def natSumsUptoRow : OpenClaim := { program := "ytejgefhmagamiaa", sum := "bc693e534d48a1bcfcedd5bbb28a5cea7f9bdc2e835dbae9b17d7ac9150a0a32", func := "plumbline/plumblinelaw01.NatSums", spec := "natSums", apart := false, narrowed := true }
def NatSumsUptoSaid : Prop := natSumsUptoRow.holds Try.pinned (OpenSpec.upto natSumsSpec)

/-- 'plumblinelaw01.NatSumsBack', WHERE WHAT IT READS IS OF BULK AT MOST 1048576: true; the input reads as it did. -/
def natSumsBackUptoRow : OpenClaim := { program := "ytejgefhmagamiaa", sum := "bc693e534d48a1bcfcedd5bbb28a5cea7f9bdc2e835dbae9b17d7ac9150a0a32", func := "plumbline/plumblinelaw01.NatSumsBack", spec := "natSumsBack", apart := false, narrowed := true }
def NatSumsBackUptoSaid : Prop := natSumsBackUptoRow.holds Try.pinned (OpenSpec.upto natSumsBackSpec)

/-- 'plumblinelaw01.NatTexts', WHERE WHAT IT READS IS OF BULK AT MOST 1048576: true; the input reads as it did. -/
def natTextsUptoRow : OpenClaim := { program := "ytejgefhmagamiaa", sum := "bc693e534d48a1bcfcedd5bbb28a5cea7f9bdc2e835dbae9b17d7ac9150a0a32", func := "plumbline/plumblinelaw01.NatTexts", spec := "natTexts", apart := false, narrowed := true }
def NatTextsUptoSaid : Prop := natTextsUptoRow.holds Try.pinned (OpenSpec.upto natTextsSpec)

/-- 'plumblinelaw01.NatTold', WHERE WHAT IT READS IS OF BULK AT MOST 1048576: true; the input reads as it did. -/
def natToldUptoRow : OpenClaim := { program := "ytejgefhmagamiaa", sum := "bc693e534d48a1bcfcedd5bbb28a5cea7f9bdc2e835dbae9b17d7ac9150a0a32", func := "plumbline/plumblinelaw01.NatTold", spec := "natTold", apart := false, narrowed := true }
def NatToldUptoSaid : Prop := natToldUptoRow.holds Try.pinned (OpenSpec.upto natToldSpec)

/-- 'plumblinelaw01.NatMuls', WHERE WHAT IT READS IS OF BULK AT MOST 1048576: true; the input reads as it did. -/
def natMulsUptoRow : OpenClaim := { program := "ytejgefhmagamiaa", sum := "bc693e534d48a1bcfcedd5bbb28a5cea7f9bdc2e835dbae9b17d7ac9150a0a32", func := "plumbline/plumblinelaw01.NatMuls", spec := "natMuls", recurses := true, apart := false, narrowed := true }
def NatMulsUptoSaid : Prop := natMulsUptoRow.holds Try.pinned (OpenSpec.upto natMulsSpec)

/-- 'plumblinelaw01.NatDivs', WHERE WHAT IT READS IS OF BULK AT MOST 1048576: true; the input reads as it did. -/
def natDivsUptoRow : OpenClaim := { program := "ytejgefhmagamiaa", sum := "bc693e534d48a1bcfcedd5bbb28a5cea7f9bdc2e835dbae9b17d7ac9150a0a32", func := "plumbline/plumblinelaw01.NatDivs", spec := "natDivs", recurses := true, apart := false, narrowed := true }
def NatDivsUptoSaid : Prop := natDivsUptoRow.holds Try.pinned (OpenSpec.upto natDivsSpec)

/-- 'plumblinelaw01.NatProductsBack', WHERE WHAT IT READS IS OF BULK AT MOST 1048576: true; the input reads as it did. -/
def natProductsBackUptoRow : OpenClaim := { program := "ytejgefhmagamiaa", sum := "bc693e534d48a1bcfcedd5bbb28a5cea7f9bdc2e835dbae9b17d7ac9150a0a32", func := "plumbline/plumblinelaw01.NatProductsBack", spec := "natProductsBack", recurses := true, apart := false, narrowed := true }
def NatProductsBackUptoSaid : Prop := natProductsBackUptoRow.holds Try.pinned (OpenSpec.upto natProductsBackSpec)

/-- 'plumblinelaw01.NatDivides', WHERE WHAT IT READS IS OF BULK AT MOST 1048576: true; the input reads as it did. -/
def natDividesUptoRow : OpenClaim := { program := "ytejgefhmagamiaa", sum := "bc693e534d48a1bcfcedd5bbb28a5cea7f9bdc2e835dbae9b17d7ac9150a0a32", func := "plumbline/plumblinelaw01.NatDivides", spec := "natDivides", recurses := true, apart := false, narrowed := true }
def NatDividesUptoSaid : Prop := natDividesUptoRow.holds Try.pinned (OpenSpec.upto natDividesSpec)

/-- 'plumblinelaw01.NatMoves', WHERE WHAT IT READS IS OF BULK AT MOST 1048576: true; the input reads as it did. -/
def natMovesUptoRow : OpenClaim := { program := "ytejgefhmagamiaa", sum := "bc693e534d48a1bcfcedd5bbb28a5cea7f9bdc2e835dbae9b17d7ac9150a0a32", func := "plumbline/plumblinelaw01.NatMoves", spec := "natMoves", recurses := true, apart := false, narrowed := true }
def NatMovesUptoSaid : Prop := natMovesUptoRow.holds Try.pinned (OpenSpec.upto natMovesSpec)

/-- 'plumblinelaw01.NatPowers', WHERE WHAT IT READS IS OF BULK AT MOST 1048576: true; the input reads as it did. -/
def natPowersUptoRow : OpenClaim := { program := "ytejgefhmagamiaa", sum := "bc693e534d48a1bcfcedd5bbb28a5cea7f9bdc2e835dbae9b17d7ac9150a0a32", func := "plumbline/plumblinelaw01.NatPowers", spec := "natPowers", recurses := true, apart := false, narrowed := true }
def NatPowersUptoSaid : Prop := natPowersUptoRow.holds Try.pinned (OpenSpec.upto natPowersSpec)

/-- 'plumblinelaw01.NatRoots', WHERE WHAT IT READS IS OF BULK AT MOST 1048576: true; the input reads as it did. -/
def natRootsUptoRow : OpenClaim := { program := "ytejgefhmagamiaa", sum := "bc693e534d48a1bcfcedd5bbb28a5cea7f9bdc2e835dbae9b17d7ac9150a0a32", func := "plumbline/plumblinelaw01.NatRoots", spec := "natRoots", recurses := true, apart := false, narrowed := true }
def NatRootsUptoSaid : Prop := natRootsUptoRow.holds Try.pinned (OpenSpec.upto natRootsSpec)

end Rows
end Go.Proofs.Ytejgefhmagamiaa
