/-
  DERIVED. GIVEN WITH THE SEED: THE CARDS: each row of YtlfebjeoeijlfaaDoorRows.lean that lists a variable, with what it lists TIED to the program's text (the seventh form; the later family's looks); each row that meets fmt, with fmt's text TOLD by the authors' own Lean function (tested against real Go, not proved from fmt's source: count such statements apart). THE CARD IS WHAT COUNTS. Prove the row's statement (the work); the ties are given (YtlfebjeoeijlfaaDoorTie.lean); close each card by the builder's one call (the guide's Derived/Test/ToyasCard.lean, 'card_holds'). Laid BY PROGRAM, IN A SANDBOX (cutbox-door.mjs). By AI agents, Wed Nov 11 2026. No macro, syntax, notation, axiom, sorry.
-/
import Derived.Test.YtlfebjeoeijlfaaDoorRows
import GoSem.ClaimSeven
namespace Go.Proofs.YtlfebjeoeijlfaaDoor
namespace Rows

/-- THE TIED CARD OF 'plumblinelaw26.ReportTells'. -/
def reportTellsCard : Claim7 := { stood := { row := reportTellsRow, standIns := [], harness := (true, "bd7222c4f126fa706258d046fb4f499b376e39d608c779f70c6cbf516a077b87"), looks := false }, kinds := [], alts := [], laidByText := true, laidKinds := [.data, .data, .data], laidTests := true, laidLooks := .later }
def ReportTellsCardSaid : Prop := Claim7.holds Tryd.pinned (.plain (OpenSpec.ofChange reportTellsSpec)) reportTellsCard

/-- THE TIED CARD OF 'plumblinelaw26.ReportReads'. -/
def reportReadsCard : Claim7 := { stood := { row := reportReadsRow, standIns := [], harness := (true, "bd7222c4f126fa706258d046fb4f499b376e39d608c779f70c6cbf516a077b87"), looks := false }, kinds := [], alts := [], laidByText := true, laidKinds := [.data, .data, .data], laidTests := true, laidLooks := .later }
def ReportReadsCardSaid : Prop := Claim7.holds Tryd.pinned (.plain (OpenSpec.ofChange reportReadsSpec)) reportReadsCard

/-- THE TIED CARD OF 'plumblinelaw26.ReportBack'. -/
def reportBackCard : Claim7 := { stood := { row := reportBackRow, standIns := [], harness := (true, "bd7222c4f126fa706258d046fb4f499b376e39d608c779f70c6cbf516a077b87"), looks := false }, kinds := [], alts := [], laidByText := true, laidKinds := [.data, .data, .data], laidTests := true, laidLooks := .later }
def ReportBackCardSaid : Prop := Claim7.holds Tryd.pinned (.plain (OpenSpec.ofChange reportBackSpec)) reportBackCard

/-- THE SECOND FORM's CARD OF 'plumblinelaw26.ReportTells'. -/
def reportTellsUptoCard : Claim7 := { stood := { row := reportTellsUptoRow, standIns := [], harness := (true, "bd7222c4f126fa706258d046fb4f499b376e39d608c779f70c6cbf516a077b87"), looks := false }, kinds := [], alts := [], laidByText := true, laidKinds := [.data, .data, .data], laidTests := true, laidLooks := .later }
def ReportTellsUptoCardSaid : Prop := Claim7.holds Tryd.pinned (.plain (OpenSpec.upto reportTellsSpec)) reportTellsUptoCard

/-- THE SECOND FORM's CARD OF 'plumblinelaw26.ReportReads'. -/
def reportReadsUptoCard : Claim7 := { stood := { row := reportReadsUptoRow, standIns := [], harness := (true, "bd7222c4f126fa706258d046fb4f499b376e39d608c779f70c6cbf516a077b87"), looks := false }, kinds := [], alts := [], laidByText := true, laidKinds := [.data, .data, .data], laidTests := true, laidLooks := .later }
def ReportReadsUptoCardSaid : Prop := Claim7.holds Tryd.pinned (.plain (OpenSpec.upto reportReadsSpec)) reportReadsUptoCard

/-- THE SECOND FORM's CARD OF 'plumblinelaw26.ReportBack'. -/
def reportBackUptoCard : Claim7 := { stood := { row := reportBackUptoRow, standIns := [], harness := (true, "bd7222c4f126fa706258d046fb4f499b376e39d608c779f70c6cbf516a077b87"), looks := false }, kinds := [], alts := [], laidByText := true, laidKinds := [.data, .data, .data], laidTests := true, laidLooks := .later }
def ReportBackUptoCardSaid : Prop := Claim7.holds Tryd.pinned (.plain (OpenSpec.upto reportBackSpec)) reportBackUptoCard
end Rows
end Go.Proofs.YtlfebjeoeijlfaaDoor
