/-
  No cell of these rows narrows 'for every input' (looked for: loops, veiled, ifaces, maps, wideKeys, modest, calm, conditions, laid).
  DERIVED. THE GIVEN ROWS OF THIS SEAT. 10 by the template 'for every input the law returns true; each argument reads behind the call as it read before'; 0 by the template 'total and deterministic' (their statements: YtehbfobfkpejoaaTotals.lean).
  GIVEN WITH THE SEED: the statements are not yours to turn. If you find one false, say at which input.
  Laid BY PROGRAM, IN A SANDBOX (cutbox-rows.mjs): the forced cells as the released guide's own fill.sh prints them over the translation f3924ab2a053c14d… (all of the seat's roots in one cut). By AI agents, Wed Nov 11 2026. No macro, syntax, notation, axiom, sorry.
-/
import Derived.Test.YtehbfobfkpejoaaChecked
import GoSem.Claim
import GoSem.ClaimJoined
import GoSem.ClaimMapViews
import Derived.JoinedTies
import Derived.KernelRfl
namespace Go.Proofs.Ytehbfobfkpejoaa
/- THE CELL 'sum', in the pinned program and in every row, IS THE sha256 OF THE DUMP (.gsa) THAT YtehbfobfkpejoaaProg.lean LOADS. Nothing in Lean hashes anything: it is a label: what it is worth is what the hold of that sum in a sandbox is worth. -/
noncomputable def Try.pinned : Pinned := { name := "ytehbfobfkpejoaa", sum := "f3924ab2a053c14def29bffbf650631d6ae14b4ef9ba147280c23b8c8e693d92", checked := Try.checked }
namespace Rows
def none {H : Type} : Left H := { results := [], args := [] }

/-- 'plumblinelaw02.ZintTexts': WHATEVER THE INPUT: true; the input reads as it did. -/
def zintTextsSpec : ChangeSpec := { name := "zintTexts", fn := fun _ => fun
  | [d1, d2] => { results := [.lit (.bool true)], args := [d1, d2] }
  | _ => none }
def zintTextsRow : OpenClaim := { program := "ytehbfobfkpejoaa", sum := "f3924ab2a053c14def29bffbf650631d6ae14b4ef9ba147280c23b8c8e693d92", func := "plumbline/plumblinelaw02.ZintTexts", spec := "zintTexts", apart := false }
def ZintTextsSaid : Prop := zintTextsRow.holds Try.pinned (OpenSpec.ofChange zintTextsSpec)

/-- ITS FALSE NEIGHBOUR: 'it returns false'. Refute it at one input. -/
def zintTextsWrong : ChangeSpec := { name := "zintTexts", fn := fun _ => fun
  | [d1, d2] => { results := [.lit (.bool false)], args := [d1, d2] }
  | _ => none }
def ZintTextsWrongFalsely : Prop := zintTextsRow.holds Try.pinned (OpenSpec.ofChange zintTextsWrong)

/-- 'plumblinelaw02.ZintSums': WHATEVER THE INPUT: true; the input reads as it did. -/
def zintSumsSpec : ChangeSpec := { name := "zintSums", fn := fun _ => fun
  | [d1, d2] => { results := [.lit (.bool true)], args := [d1, d2] }
  | _ => none }
def zintSumsRow : OpenClaim := { program := "ytehbfobfkpejoaa", sum := "f3924ab2a053c14def29bffbf650631d6ae14b4ef9ba147280c23b8c8e693d92", func := "plumbline/plumblinelaw02.ZintSums", spec := "zintSums", recurses := true, apart := false }
def ZintSumsSaid : Prop := zintSumsRow.holds Try.pinned (OpenSpec.ofChange zintSumsSpec)

/-- ITS FALSE NEIGHBOUR: 'it returns false'. Refute it at one input. -/
def zintSumsWrong : ChangeSpec := { name := "zintSums", fn := fun _ => fun
  | [d1, d2] => { results := [.lit (.bool false)], args := [d1, d2] }
  | _ => none }
def ZintSumsWrongFalsely : Prop := zintSumsRow.holds Try.pinned (OpenSpec.ofChange zintSumsWrong)

/-- 'plumblinelaw02.ZintSmall': WHATEVER THE INPUT: true; the input reads as it did. -/
def zintSmallSpec : ChangeSpec := { name := "zintSmall", fn := fun _ => fun
  | [d1, d2] => { results := [.lit (.bool true)], args := [d1, d2] }
  | _ => none }
def zintSmallRow : OpenClaim := { program := "ytehbfobfkpejoaa", sum := "f3924ab2a053c14def29bffbf650631d6ae14b4ef9ba147280c23b8c8e693d92", func := "plumbline/plumblinelaw02.ZintSmall", spec := "zintSmall", recurses := true, apart := false }
def ZintSmallSaid : Prop := zintSmallRow.holds Try.pinned (OpenSpec.ofChange zintSmallSpec)

/-- ITS FALSE NEIGHBOUR: 'it returns false'. Refute it at one input. -/
def zintSmallWrong : ChangeSpec := { name := "zintSmall", fn := fun _ => fun
  | [d1, d2] => { results := [.lit (.bool false)], args := [d1, d2] }
  | _ => none }
def ZintSmallWrongFalsely : Prop := zintSmallRow.holds Try.pinned (OpenSpec.ofChange zintSmallWrong)

/-- 'plumblinelaw02.ZintRings': WHATEVER THE INPUT: true; the input reads as it did. -/
def zintRingsSpec : ChangeSpec := { name := "zintRings", fn := fun _ => fun
  | [d1, d2, d3] => { results := [.lit (.bool true)], args := [d1, d2, d3] }
  | _ => none }
def zintRingsRow : OpenClaim := { program := "ytehbfobfkpejoaa", sum := "f3924ab2a053c14def29bffbf650631d6ae14b4ef9ba147280c23b8c8e693d92", func := "plumbline/plumblinelaw02.ZintRings", spec := "zintRings", recurses := true, apart := false }
def ZintRingsSaid : Prop := zintRingsRow.holds Try.pinned (OpenSpec.ofChange zintRingsSpec)

/-- ITS FALSE NEIGHBOUR: 'it returns false'. Refute it at one input. -/
def zintRingsWrong : ChangeSpec := { name := "zintRings", fn := fun _ => fun
  | [d1, d2, d3] => { results := [.lit (.bool false)], args := [d1, d2, d3] }
  | _ => none }
def ZintRingsWrongFalsely : Prop := zintRingsRow.holds Try.pinned (OpenSpec.ofChange zintRingsWrong)

/-- 'plumblinelaw02.ZintTold': WHATEVER THE INPUT: true; the input reads as it did. -/
def zintToldSpec : ChangeSpec := { name := "zintTold", fn := fun _ => fun
  | [d] => { results := [.lit (.bool true)], args := [d] }
  | _ => none }
def zintToldRow : OpenClaim := { program := "ytehbfobfkpejoaa", sum := "f3924ab2a053c14def29bffbf650631d6ae14b4ef9ba147280c23b8c8e693d92", func := "plumbline/plumblinelaw02.ZintTold", spec := "zintTold", recurses := true, apart := false }
def ZintToldSaid : Prop := zintToldRow.holds Try.pinned (OpenSpec.ofChange zintToldSpec)

/-- ITS FALSE NEIGHBOUR: 'it returns false'. Refute it at one input. -/
def zintToldWrong : ChangeSpec := { name := "zintTold", fn := fun _ => fun
  | [d] => { results := [.lit (.bool false)], args := [d] }
  | _ => none }
def ZintToldWrongFalsely : Prop := zintToldRow.holds Try.pinned (OpenSpec.ofChange zintToldWrong)

/-- 'plumblinelaw02.ZintDivs': WHATEVER THE INPUT: true; the input reads as it did. -/
def zintDivsSpec : ChangeSpec := { name := "zintDivs", fn := fun _ => fun
  | [d1, d2] => { results := [.lit (.bool true)], args := [d1, d2] }
  | _ => none }
def zintDivsRow : OpenClaim := { program := "ytehbfobfkpejoaa", sum := "f3924ab2a053c14def29bffbf650631d6ae14b4ef9ba147280c23b8c8e693d92", func := "plumbline/plumblinelaw02.ZintDivs", spec := "zintDivs", recurses := true, apart := false }
def ZintDivsSaid : Prop := zintDivsRow.holds Try.pinned (OpenSpec.ofChange zintDivsSpec)

/-- ITS FALSE NEIGHBOUR: 'it returns false'. Refute it at one input. -/
def zintDivsWrong : ChangeSpec := { name := "zintDivs", fn := fun _ => fun
  | [d1, d2] => { results := [.lit (.bool false)], args := [d1, d2] }
  | _ => none }
def ZintDivsWrongFalsely : Prop := zintDivsRow.holds Try.pinned (OpenSpec.ofChange zintDivsWrong)

/-- 'plumblinelaw02.ZintShares': WHATEVER THE INPUT: true; the input reads as it did. -/
def zintSharesSpec : ChangeSpec := { name := "zintShares", fn := fun _ => fun
  | [d1, d2] => { results := [.lit (.bool true)], args := [d1, d2] }
  | _ => none }
def zintSharesRow : OpenClaim := { program := "ytehbfobfkpejoaa", sum := "f3924ab2a053c14def29bffbf650631d6ae14b4ef9ba147280c23b8c8e693d92", func := "plumbline/plumblinelaw02.ZintShares", spec := "zintShares", recurses := true, apart := false }
def ZintSharesSaid : Prop := zintSharesRow.holds Try.pinned (OpenSpec.ofChange zintSharesSpec)

/-- ITS FALSE NEIGHBOUR: 'it returns false'. Refute it at one input. -/
def zintSharesWrong : ChangeSpec := { name := "zintShares", fn := fun _ => fun
  | [d1, d2] => { results := [.lit (.bool false)], args := [d1, d2] }
  | _ => none }
def ZintSharesWrongFalsely : Prop := zintSharesRow.holds Try.pinned (OpenSpec.ofChange zintSharesWrong)

/-- 'plumblinelaw02.ZintDivides': WHATEVER THE INPUT: true; the input reads as it did. -/
def zintDividesSpec : ChangeSpec := { name := "zintDivides", fn := fun _ => fun
  | [d1, d2] => { results := [.lit (.bool true)], args := [d1, d2] }
  | _ => none }
def zintDividesRow : OpenClaim := { program := "ytehbfobfkpejoaa", sum := "f3924ab2a053c14def29bffbf650631d6ae14b4ef9ba147280c23b8c8e693d92", func := "plumbline/plumblinelaw02.ZintDivides", spec := "zintDivides", recurses := true, apart := false }
def ZintDividesSaid : Prop := zintDividesRow.holds Try.pinned (OpenSpec.ofChange zintDividesSpec)

/-- ITS FALSE NEIGHBOUR: 'it returns false'. Refute it at one input. -/
def zintDividesWrong : ChangeSpec := { name := "zintDivides", fn := fun _ => fun
  | [d1, d2] => { results := [.lit (.bool false)], args := [d1, d2] }
  | _ => none }
def ZintDividesWrongFalsely : Prop := zintDividesRow.holds Try.pinned (OpenSpec.ofChange zintDividesWrong)

/-- 'plumblinelaw02.ZintHats': WHATEVER THE INPUT: true; the input reads as it did. -/
def zintHatsSpec : ChangeSpec := { name := "zintHats", fn := fun _ => fun
  | [d1, d2] => { results := [.lit (.bool true)], args := [d1, d2] }
  | _ => none }
def zintHatsRow : OpenClaim := { program := "ytehbfobfkpejoaa", sum := "f3924ab2a053c14def29bffbf650631d6ae14b4ef9ba147280c23b8c8e693d92", func := "plumbline/plumblinelaw02.ZintHats", spec := "zintHats", recurses := true, apart := false }
def ZintHatsSaid : Prop := zintHatsRow.holds Try.pinned (OpenSpec.ofChange zintHatsSpec)

/-- ITS FALSE NEIGHBOUR: 'it returns false'. Refute it at one input. -/
def zintHatsWrong : ChangeSpec := { name := "zintHats", fn := fun _ => fun
  | [d1, d2] => { results := [.lit (.bool false)], args := [d1, d2] }
  | _ => none }
def ZintHatsWrongFalsely : Prop := zintHatsRow.holds Try.pinned (OpenSpec.ofChange zintHatsWrong)

/-- 'plumblinelaw02.ZintEuclid': WHATEVER THE INPUT: true; the input reads as it did. -/
def zintEuclidSpec : ChangeSpec := { name := "zintEuclid", fn := fun _ => fun
  | [d1, d2] => { results := [.lit (.bool true)], args := [d1, d2] }
  | _ => none }
def zintEuclidRow : OpenClaim := { program := "ytehbfobfkpejoaa", sum := "f3924ab2a053c14def29bffbf650631d6ae14b4ef9ba147280c23b8c8e693d92", func := "plumbline/plumblinelaw02.ZintEuclid", spec := "zintEuclid", recurses := true, apart := false }
def ZintEuclidSaid : Prop := zintEuclidRow.holds Try.pinned (OpenSpec.ofChange zintEuclidSpec)

/-- ITS FALSE NEIGHBOUR: 'it returns false'. Refute it at one input. -/
def zintEuclidWrong : ChangeSpec := { name := "zintEuclid", fn := fun _ => fun
  | [d1, d2] => { results := [.lit (.bool false)], args := [d1, d2] }
  | _ => none }
def ZintEuclidWrongFalsely : Prop := zintEuclidRow.holds Try.pinned (OpenSpec.ofChange zintEuclidWrong)

/- THE SECOND FORM. 'bulk': how many values and letters a reading holds, each counted each time it is reached (what is shared counts as often as it is met; a slice's spare places count too). A statement '..UptoSaid' is the law's where the arguments, and the package variables that the reading takes, are together of bulk at most 1048576: NARROWER than '..Said'. Prove '..Said' where nothing that the law and all that it calls make is longer than what came in: it says more and counts as full. Else prove '..UptoSaid'. A law counts once. -/
mutual
def uptoBulk {H : Type} : DataW H → Nat
  | .lit (.string bytes) => bytes.length + 1
  | .lit _ => 1
  | .nil => 1
  | .ptr d => uptoBulk d + 1
  | .slice elems spare => uptoBulkAll elems + uptoBulkAll spare + 1
  | .agg parts => uptoBulkAll parts + 1
  | .iface _ d => uptoBulk d + 1
  | .map entries => uptoBulkEntries entries + 1
  | .held _ => 1
def uptoBulkAll {H : Type} : List (DataW H) → Nat
  | [] => 0
  | d :: r => uptoBulk d + uptoBulkAll r
def uptoBulkEntries {H : Type} : List (Lit × DataW H) → Nat
  | [] => 0
  | x :: r => uptoBulkEntry x + uptoBulkEntries r
def uptoBulkEntry {H : Type} : Lit × DataW H → Nat
  | (.string bytes, d) => bytes.length + uptoBulk d + 1
  | (_, d) => uptoBulk d + 1
 end
def uptoSmall : (H : Type) → List (DataW H) → Bool := fun _ ds => decide (uptoBulkAll ds ≤ 1048576)
def OpenSpec.upto (s : _root_.Go.ChangeSpec) : _root_.Go.OpenSpec := { _root_.Go.OpenSpec.ofChange s with cond := some uptoSmall }

/-- 'plumblinelaw02.ZintTexts', WHERE WHAT IT READS IS OF BULK AT MOST 1048576: true; the input reads as it did. -/
def zintTextsUptoRow : OpenClaim := { program := "ytehbfobfkpejoaa", sum := "f3924ab2a053c14def29bffbf650631d6ae14b4ef9ba147280c23b8c8e693d92", func := "plumbline/plumblinelaw02.ZintTexts", spec := "zintTexts", apart := false, narrowed := true }
def ZintTextsUptoSaid : Prop := zintTextsUptoRow.holds Try.pinned (OpenSpec.upto zintTextsSpec)

/-- 'plumblinelaw02.ZintSums', WHERE WHAT IT READS IS OF BULK AT MOST 1048576: true; the input reads as it did. -/
def zintSumsUptoRow : OpenClaim := { program := "ytehbfobfkpejoaa", sum := "f3924ab2a053c14def29bffbf650631d6ae14b4ef9ba147280c23b8c8e693d92", func := "plumbline/plumblinelaw02.ZintSums", spec := "zintSums", recurses := true, apart := false, narrowed := true }
def ZintSumsUptoSaid : Prop := zintSumsUptoRow.holds Try.pinned (OpenSpec.upto zintSumsSpec)

/-- 'plumblinelaw02.ZintSmall', WHERE WHAT IT READS IS OF BULK AT MOST 1048576: true; the input reads as it did. -/
def zintSmallUptoRow : OpenClaim := { program := "ytehbfobfkpejoaa", sum := "f3924ab2a053c14def29bffbf650631d6ae14b4ef9ba147280c23b8c8e693d92", func := "plumbline/plumblinelaw02.ZintSmall", spec := "zintSmall", recurses := true, apart := false, narrowed := true }
def ZintSmallUptoSaid : Prop := zintSmallUptoRow.holds Try.pinned (OpenSpec.upto zintSmallSpec)

/-- 'plumblinelaw02.ZintRings', WHERE WHAT IT READS IS OF BULK AT MOST 1048576: true; the input reads as it did. -/
def zintRingsUptoRow : OpenClaim := { program := "ytehbfobfkpejoaa", sum := "f3924ab2a053c14def29bffbf650631d6ae14b4ef9ba147280c23b8c8e693d92", func := "plumbline/plumblinelaw02.ZintRings", spec := "zintRings", recurses := true, apart := false, narrowed := true }
def ZintRingsUptoSaid : Prop := zintRingsUptoRow.holds Try.pinned (OpenSpec.upto zintRingsSpec)

/-- 'plumblinelaw02.ZintTold', WHERE WHAT IT READS IS OF BULK AT MOST 1048576: true; the input reads as it did. -/
def zintToldUptoRow : OpenClaim := { program := "ytehbfobfkpejoaa", sum := "f3924ab2a053c14def29bffbf650631d6ae14b4ef9ba147280c23b8c8e693d92", func := "plumbline/plumblinelaw02.ZintTold", spec := "zintTold", recurses := true, apart := false, narrowed := true }
def ZintToldUptoSaid : Prop := zintToldUptoRow.holds Try.pinned (OpenSpec.upto zintToldSpec)

/-- 'plumblinelaw02.ZintDivs', WHERE WHAT IT READS IS OF BULK AT MOST 1048576: true; the input reads as it did. -/
def zintDivsUptoRow : OpenClaim := { program := "ytehbfobfkpejoaa", sum := "f3924ab2a053c14def29bffbf650631d6ae14b4ef9ba147280c23b8c8e693d92", func := "plumbline/plumblinelaw02.ZintDivs", spec := "zintDivs", recurses := true, apart := false, narrowed := true }
def ZintDivsUptoSaid : Prop := zintDivsUptoRow.holds Try.pinned (OpenSpec.upto zintDivsSpec)

/-- 'plumblinelaw02.ZintShares', WHERE WHAT IT READS IS OF BULK AT MOST 1048576: true; the input reads as it did. -/
def zintSharesUptoRow : OpenClaim := { program := "ytehbfobfkpejoaa", sum := "f3924ab2a053c14def29bffbf650631d6ae14b4ef9ba147280c23b8c8e693d92", func := "plumbline/plumblinelaw02.ZintShares", spec := "zintShares", recurses := true, apart := false, narrowed := true }
def ZintSharesUptoSaid : Prop := zintSharesUptoRow.holds Try.pinned (OpenSpec.upto zintSharesSpec)

/-- 'plumblinelaw02.ZintDivides', WHERE WHAT IT READS IS OF BULK AT MOST 1048576: true; the input reads as it did. -/
def zintDividesUptoRow : OpenClaim := { program := "ytehbfobfkpejoaa", sum := "f3924ab2a053c14def29bffbf650631d6ae14b4ef9ba147280c23b8c8e693d92", func := "plumbline/plumblinelaw02.ZintDivides", spec := "zintDivides", recurses := true, apart := false, narrowed := true }
def ZintDividesUptoSaid : Prop := zintDividesUptoRow.holds Try.pinned (OpenSpec.upto zintDividesSpec)

/-- 'plumblinelaw02.ZintHats', WHERE WHAT IT READS IS OF BULK AT MOST 1048576: true; the input reads as it did. -/
def zintHatsUptoRow : OpenClaim := { program := "ytehbfobfkpejoaa", sum := "f3924ab2a053c14def29bffbf650631d6ae14b4ef9ba147280c23b8c8e693d92", func := "plumbline/plumblinelaw02.ZintHats", spec := "zintHats", recurses := true, apart := false, narrowed := true }
def ZintHatsUptoSaid : Prop := zintHatsUptoRow.holds Try.pinned (OpenSpec.upto zintHatsSpec)

/-- 'plumblinelaw02.ZintEuclid', WHERE WHAT IT READS IS OF BULK AT MOST 1048576: true; the input reads as it did. -/
def zintEuclidUptoRow : OpenClaim := { program := "ytehbfobfkpejoaa", sum := "f3924ab2a053c14def29bffbf650631d6ae14b4ef9ba147280c23b8c8e693d92", func := "plumbline/plumblinelaw02.ZintEuclid", spec := "zintEuclid", recurses := true, apart := false, narrowed := true }
def ZintEuclidUptoSaid : Prop := zintEuclidUptoRow.holds Try.pinned (OpenSpec.upto zintEuclidSpec)

end Rows
end Go.Proofs.Ytehbfobfkpejoaa
