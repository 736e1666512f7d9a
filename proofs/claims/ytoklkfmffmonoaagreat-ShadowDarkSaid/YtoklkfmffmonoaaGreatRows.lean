/-
  No cell of these rows narrows 'for every input' (looked for: loops, veiled, ifaces, maps, wideKeys, modest, calm, conditions, laid).
  DERIVED. THE GIVEN ROWS OF THIS SEAT. 6 by the template 'for every input the law returns true; each argument reads behind the call as it read before'; 0 by the template 'total and deterministic' (their statements: YtoklkfmffmonoaaGreatTotals.lean).
  GIVEN WITH THE SEED: the statements are not yours to turn. If you find one false, say at which input.
  Laid BY PROGRAM, IN A SANDBOX (cutbox-rows.mjs): the forced cells as the released guide's own fill.sh prints them over the translation 882340a70ea489e3… (all of the seat's roots in one cut). By AI agents, Wed Nov 11 2026. No macro, syntax, notation, axiom, sorry.
-/
import Derived.Test.YtoklkfmffmonoaaGreatChecked
import GoSem.Claim
import GoSem.ClaimJoined
import GoSem.ClaimMapViews
import Derived.JoinedTies
import Derived.KernelRfl
namespace Go.Proofs.YtoklkfmffmonoaaGreat
/- THE CELL 'sum', in the pinned program and in every row, IS THE sha256 OF THE DUMP (.gsa) THAT YtoklkfmffmonoaaGreatProg.lean LOADS. Nothing in Lean hashes anything: it is a label: what it is worth is what the hold of that sum in a sandbox is worth. -/
noncomputable def Tryz.pinned : Pinned := { name := "ytoklkfmffmonoaagreat", sum := "882340a70ea489e37772204d38bbbcb25a2fd8a65c505b4df04230adda3ec3f6", checked := Tryz.checked }
namespace Rows
def none {H : Type} : Left H := { results := [], args := [] }

/-- 'plumblinelaw07.ShadowFits': WHATEVER THE INPUT: true; the input reads as it did. -/
def shadowFitsSpec : ChangeSpec := { name := "shadowFits", fn := fun _ => fun
  | [d1, d2, d3] => { results := [.lit (.bool true)], args := [d1, d2, d3] }
  | _ => none }
def shadowFitsRow : OpenClaim := { program := "ytoklkfmffmonoaagreat", sum := "882340a70ea489e37772204d38bbbcb25a2fd8a65c505b4df04230adda3ec3f6", func := "plumbline/plumblinelaw07.ShadowFits", spec := "shadowFits", unfollowed := true, recurses := true, apart := false }
def ShadowFitsSaid : Prop := shadowFitsRow.holds Tryz.pinned (OpenSpec.ofChange shadowFitsSpec)

/-- ITS FALSE NEIGHBOUR: 'it returns false'. Refute it at one input. -/
def shadowFitsWrong : ChangeSpec := { name := "shadowFits", fn := fun _ => fun
  | [d1, d2, d3] => { results := [.lit (.bool false)], args := [d1, d2, d3] }
  | _ => none }
def ShadowFitsWrongFalsely : Prop := shadowFitsRow.holds Tryz.pinned (OpenSpec.ofChange shadowFitsWrong)

/-- 'plumblinelaw07.ShadowShades': WHATEVER THE INPUT: true; the input reads as it did. -/
def shadowShadesSpec : ChangeSpec := { name := "shadowShades", fn := fun _ => fun
  | [d1, d2] => { results := [.lit (.bool true)], args := [d1, d2] }
  | _ => none }
def shadowShadesRow : OpenClaim := { program := "ytoklkfmffmonoaagreat", sum := "882340a70ea489e37772204d38bbbcb25a2fd8a65c505b4df04230adda3ec3f6", func := "plumbline/plumblinelaw07.ShadowShades", spec := "shadowShades", unfollowed := true, recurses := true, apart := false }
def ShadowShadesSaid : Prop := shadowShadesRow.holds Tryz.pinned (OpenSpec.ofChange shadowShadesSpec)

/-- ITS FALSE NEIGHBOUR: 'it returns false'. Refute it at one input. -/
def shadowShadesWrong : ChangeSpec := { name := "shadowShades", fn := fun _ => fun
  | [d1, d2] => { results := [.lit (.bool false)], args := [d1, d2] }
  | _ => none }
def ShadowShadesWrongFalsely : Prop := shadowShadesRow.holds Tryz.pinned (OpenSpec.ofChange shadowShadesWrong)

/-- 'plumblinelaw07.ShadowReal': WHATEVER THE INPUT: true; the input reads as it did. -/
def shadowRealSpec : ChangeSpec := { name := "shadowReal", fn := fun _ => fun
  | [d1, d2, d3] => { results := [.lit (.bool true)], args := [d1, d2, d3] }
  | _ => none }
def shadowRealRow : OpenClaim := { program := "ytoklkfmffmonoaagreat", sum := "882340a70ea489e37772204d38bbbcb25a2fd8a65c505b4df04230adda3ec3f6", func := "plumbline/plumblinelaw07.ShadowReal", spec := "shadowReal", unfollowed := true, recurses := true, apart := false }
def ShadowRealSaid : Prop := shadowRealRow.holds Tryz.pinned (OpenSpec.ofChange shadowRealSpec)

/-- ITS FALSE NEIGHBOUR: 'it returns false'. Refute it at one input. -/
def shadowRealWrong : ChangeSpec := { name := "shadowReal", fn := fun _ => fun
  | [d1, d2, d3] => { results := [.lit (.bool false)], args := [d1, d2, d3] }
  | _ => none }
def ShadowRealWrongFalsely : Prop := shadowRealRow.holds Tryz.pinned (OpenSpec.ofChange shadowRealWrong)

/-- 'plumblinelaw07.ShadowDark': WHATEVER THE INPUT: true; the input reads as it did. -/
def shadowDarkSpec : ChangeSpec := { name := "shadowDark", fn := fun _ => fun
  | [d1, d2, d3] => { results := [.lit (.bool true)], args := [d1, d2, d3] }
  | _ => none }
def shadowDarkRow : OpenClaim := { program := "ytoklkfmffmonoaagreat", sum := "882340a70ea489e37772204d38bbbcb25a2fd8a65c505b4df04230adda3ec3f6", func := "plumbline/plumblinelaw07.ShadowDark", spec := "shadowDark", unfollowed := true, recurses := true, apart := false }
def ShadowDarkSaid : Prop := shadowDarkRow.holds Tryz.pinned (OpenSpec.ofChange shadowDarkSpec)

/-- ITS FALSE NEIGHBOUR: 'it returns false'. Refute it at one input. -/
def shadowDarkWrong : ChangeSpec := { name := "shadowDark", fn := fun _ => fun
  | [d1, d2, d3] => { results := [.lit (.bool false)], args := [d1, d2, d3] }
  | _ => none }
def ShadowDarkWrongFalsely : Prop := shadowDarkRow.holds Tryz.pinned (OpenSpec.ofChange shadowDarkWrong)

/-- 'plumblinelaw07.ShadowExact': WHATEVER THE INPUT: true; the input reads as it did. -/
def shadowExactSpec : ChangeSpec := { name := "shadowExact", fn := fun _ => fun
  | [d1, d2] => { results := [.lit (.bool true)], args := [d1, d2] }
  | _ => none }
def shadowExactRow : OpenClaim := { program := "ytoklkfmffmonoaagreat", sum := "882340a70ea489e37772204d38bbbcb25a2fd8a65c505b4df04230adda3ec3f6", func := "plumbline/plumblinelaw07.ShadowExact", spec := "shadowExact", unfollowed := true, recurses := true, apart := false }
def ShadowExactSaid : Prop := shadowExactRow.holds Tryz.pinned (OpenSpec.ofChange shadowExactSpec)

/-- ITS FALSE NEIGHBOUR: 'it returns false'. Refute it at one input. -/
def shadowExactWrong : ChangeSpec := { name := "shadowExact", fn := fun _ => fun
  | [d1, d2] => { results := [.lit (.bool false)], args := [d1, d2] }
  | _ => none }
def ShadowExactWrongFalsely : Prop := shadowExactRow.holds Tryz.pinned (OpenSpec.ofChange shadowExactWrong)

/-- 'plumblinelaw07.ShadowCovers': WHATEVER THE INPUT: true; the input reads as it did. -/
def shadowCoversSpec : ChangeSpec := { name := "shadowCovers", fn := fun _ => fun
  | [d1, d2, d3] => { results := [.lit (.bool true)], args := [d1, d2, d3] }
  | _ => none }
def shadowCoversRow : OpenClaim := { program := "ytoklkfmffmonoaagreat", sum := "882340a70ea489e37772204d38bbbcb25a2fd8a65c505b4df04230adda3ec3f6", func := "plumbline/plumblinelaw07.ShadowCovers", spec := "shadowCovers", unfollowed := true, recurses := true, apart := false }
def ShadowCoversSaid : Prop := shadowCoversRow.holds Tryz.pinned (OpenSpec.ofChange shadowCoversSpec)

/-- ITS FALSE NEIGHBOUR: 'it returns false'. Refute it at one input. -/
def shadowCoversWrong : ChangeSpec := { name := "shadowCovers", fn := fun _ => fun
  | [d1, d2, d3] => { results := [.lit (.bool false)], args := [d1, d2, d3] }
  | _ => none }
def ShadowCoversWrongFalsely : Prop := shadowCoversRow.holds Tryz.pinned (OpenSpec.ofChange shadowCoversWrong)

/- THE SECOND FORM. 'bulk': how many values and letters a reading holds, each counted each time it is reached (what is shared counts as often as it is met; a slice's spare places count too). A statement '..UptoSaid' is the law's where the arguments, and the package variables that the reading takes, are together of bulk at most 1048576: NARROWER than '..Said'. Prove '..Said' where nothing that the law and all that it calls make is longer than what came in: it says more and counts as full. Else prove '..UptoSaid'. A law counts once. -/
mutual
def uptoBulk {H : Type} : DataW H → Nat
  | .lit (.string bytes) => bytes.length + 1
  | .lit _ => 1
  | .nil => 1
  | .ptr d => uptoBulk d + 1
  | .slice elems spare => uptoBulkAll elems + uptoBulkAll spare + 1
  | .agg parts => uptoBulkAll parts + 1
  | .iface _ d => uptoBulk d + 1
  | .map entries => uptoBulkEntries entries + 1
  | .held _ => 1
def uptoBulkAll {H : Type} : List (DataW H) → Nat
  | [] => 0
  | d :: r => uptoBulk d + uptoBulkAll r
def uptoBulkEntries {H : Type} : List (Lit × DataW H) → Nat
  | [] => 0
  | x :: r => uptoBulkEntry x + uptoBulkEntries r
def uptoBulkEntry {H : Type} : Lit × DataW H → Nat
  | (.string bytes, d) => bytes.length + uptoBulk d + 1
  | (_, d) => uptoBulk d + 1
 end
def uptoSmall : (H : Type) → List (DataW H) → Bool := fun _ ds => decide (uptoBulkAll ds ≤ 1048576)
def OpenSpec.upto (s : _root_.Go.ChangeSpec) : _root_.Go.OpenSpec := { _root_.Go.OpenSpec.ofChange s with cond := some uptoSmall }

/-- 'plumblinelaw07.ShadowFits', WHERE WHAT IT READS IS OF BULK AT MOST 1048576: true; the input reads as it did. -/
def shadowFitsUptoRow : OpenClaim := { program := "ytoklkfmffmonoaagreat", sum := "882340a70ea489e37772204d38bbbcb25a2fd8a65c505b4df04230adda3ec3f6", func := "plumbline/plumblinelaw07.ShadowFits", spec := "shadowFits", unfollowed := true, recurses := true, apart := false, narrowed := true }
def ShadowFitsUptoSaid : Prop := shadowFitsUptoRow.holds Tryz.pinned (OpenSpec.upto shadowFitsSpec)

/-- 'plumblinelaw07.ShadowShades', WHERE WHAT IT READS IS OF BULK AT MOST 1048576: true; the input reads as it did. -/
def shadowShadesUptoRow : OpenClaim := { program := "ytoklkfmffmonoaagreat", sum := "882340a70ea489e37772204d38bbbcb25a2fd8a65c505b4df04230adda3ec3f6", func := "plumbline/plumblinelaw07.ShadowShades", spec := "shadowShades", unfollowed := true, recurses := true, apart := false, narrowed := true }
def ShadowShadesUptoSaid : Prop := shadowShadesUptoRow.holds Tryz.pinned (OpenSpec.upto shadowShadesSpec)

/-- 'plumblinelaw07.ShadowReal', WHERE WHAT IT READS IS OF BULK AT MOST 1048576: true; the input reads as it did. -/
def shadowRealUptoRow : OpenClaim := { program := "ytoklkfmffmonoaagreat", sum := "882340a70ea489e37772204d38bbbcb25a2fd8a65c505b4df04230adda3ec3f6", func := "plumbline/plumblinelaw07.ShadowReal", spec := "shadowReal", unfollowed := true, recurses := true, apart := false, narrowed := true }
def ShadowRealUptoSaid : Prop := shadowRealUptoRow.holds Tryz.pinned (OpenSpec.upto shadowRealSpec)

/-- 'plumblinelaw07.ShadowDark', WHERE WHAT IT READS IS OF BULK AT MOST 1048576: true; the input reads as it did. -/
def shadowDarkUptoRow : OpenClaim := { program := "ytoklkfmffmonoaagreat", sum := "882340a70ea489e37772204d38bbbcb25a2fd8a65c505b4df04230adda3ec3f6", func := "plumbline/plumblinelaw07.ShadowDark", spec := "shadowDark", unfollowed := true, recurses := true, apart := false, narrowed := true }
def ShadowDarkUptoSaid : Prop := shadowDarkUptoRow.holds Tryz.pinned (OpenSpec.upto shadowDarkSpec)

/-- 'plumblinelaw07.ShadowExact', WHERE WHAT IT READS IS OF BULK AT MOST 1048576: true; the input reads as it did. -/
def shadowExactUptoRow : OpenClaim := { program := "ytoklkfmffmonoaagreat", sum := "882340a70ea489e37772204d38bbbcb25a2fd8a65c505b4df04230adda3ec3f6", func := "plumbline/plumblinelaw07.ShadowExact", spec := "shadowExact", unfollowed := true, recurses := true, apart := false, narrowed := true }
def ShadowExactUptoSaid : Prop := shadowExactUptoRow.holds Tryz.pinned (OpenSpec.upto shadowExactSpec)

/-- 'plumblinelaw07.ShadowCovers', WHERE WHAT IT READS IS OF BULK AT MOST 1048576: true; the input reads as it did. -/
def shadowCoversUptoRow : OpenClaim := { program := "ytoklkfmffmonoaagreat", sum := "882340a70ea489e37772204d38bbbcb25a2fd8a65c505b4df04230adda3ec3f6", func := "plumbline/plumblinelaw07.ShadowCovers", spec := "shadowCovers", unfollowed := true, recurses := true, apart := false, narrowed := true }
def ShadowCoversUptoSaid : Prop := shadowCoversUptoRow.holds Tryz.pinned (OpenSpec.upto shadowCoversSpec)

end Rows
end Go.Proofs.YtoklkfmffmonoaaGreat
