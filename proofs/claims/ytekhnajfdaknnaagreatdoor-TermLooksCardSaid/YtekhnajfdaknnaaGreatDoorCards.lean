/-
  DERIVED. GIVEN WITH THE SEED: THE CARDS: each row of YtekhnajfdaknnaaGreatDoorRows.lean that lists a variable, with what it lists TIED to the program's text (the seventh form; the later family's looks); each row that meets fmt, with fmt's text TOLD by the authors' own Lean function (tested against real Go, not proved from fmt's source: count such statements apart). THE CARD IS WHAT COUNTS. Prove the row's statement (the work); the ties are given (YtekhnajfdaknnaaGreatDoorTie.lean); close each card by the builder's one call (the guide's Derived/Test/ToyasCard.lean, 'card_holds'). Laid BY PROGRAM, IN A SANDBOX (cutbox-door.mjs). By AI agents, Wed Nov 11 2026. No macro, syntax, notation, axiom, sorry.
-/
import Derived.Test.YtekhnajfdaknnaaGreatDoorRows
import GoSem.ClaimSeven
namespace Go.Proofs.YtekhnajfdaknnaaGreatDoor
namespace Rows

/-- THE TIED CARD OF 'plumblinelaw03.TermApart'. -/
def termApartCard : Claim7 := { stood := { row := termApartRow, standIns := [], harness := (true, "97a79c8e33111ce0a29b5e1069275e6f92a3bc254075085a68b535fbfc7ec89a"), looks := false }, kinds := [], alts := [], laidByText := true, laidKinds := [.data, .data, .data], laidTests := true, laidLooks := .later }
def TermApartCardSaid : Prop := Claim7.holds Tryz.pinned (.plain (OpenSpec.ofChange termApartSpec)) termApartCard

/-- THE TIED CARD OF 'plumblinelaw03.TermLooks'. -/
def termLooksCard : Claim7 := { stood := { row := termLooksRow, standIns := [], harness := (true, "97a79c8e33111ce0a29b5e1069275e6f92a3bc254075085a68b535fbfc7ec89a"), looks := false }, kinds := [], alts := [], laidByText := true, laidKinds := [.data, .data, .data], laidTests := true, laidLooks := .later }
def TermLooksCardSaid : Prop := Claim7.holds Tryz.pinned (.plain (OpenSpec.ofChange termLooksSpec)) termLooksCard

/-- THE TIED CARD OF 'plumblinelaw03.TermLinear'. -/
def termLinearCard : Claim7 := { stood := { row := termLinearRow, standIns := [], harness := (true, "97a79c8e33111ce0a29b5e1069275e6f92a3bc254075085a68b535fbfc7ec89a"), looks := false }, kinds := [], alts := [], laidByText := true, laidKinds := [.data, .data, .data], laidTests := true, laidLooks := .later }
def TermLinearCardSaid : Prop := Claim7.holds Tryz.pinned (.plain (OpenSpec.ofChange termLinearSpec)) termLinearCard

/-- THE TIED CARD OF 'plumblinelaw03.TermShrinks'. -/
def termShrinksCard : Claim7 := { stood := { row := termShrinksRow, standIns := [], harness := (true, "97a79c8e33111ce0a29b5e1069275e6f92a3bc254075085a68b535fbfc7ec89a"), looks := false }, kinds := [], alts := [], laidByText := true, laidKinds := [.data, .data, .data], laidTests := true, laidLooks := .later }
def TermShrinksCardSaid : Prop := Claim7.holds Tryz.pinned (.plain (OpenSpec.ofChange termShrinksSpec)) termShrinksCard

/-- THE TIED CARD OF 'plumblinelaw03.TermPutValues'. -/
def termPutValuesCard : Claim7 := { stood := { row := termPutValuesRow, standIns := [], harness := (true, "97a79c8e33111ce0a29b5e1069275e6f92a3bc254075085a68b535fbfc7ec89a"), looks := false }, kinds := [], alts := [], laidByText := true, laidKinds := [.data, .data, .data], laidTests := true, laidLooks := .later }
def TermPutValuesCardSaid : Prop := Claim7.holds Tryz.pinned (.plain (OpenSpec.ofChange termPutValuesSpec)) termPutValuesCard

/-- THE SECOND FORM's CARD OF 'plumblinelaw03.TermApart'. -/
def termApartUptoCard : Claim7 := { stood := { row := termApartUptoRow, standIns := [], harness := (true, "97a79c8e33111ce0a29b5e1069275e6f92a3bc254075085a68b535fbfc7ec89a"), looks := false }, kinds := [], alts := [], laidByText := true, laidKinds := [.data, .data, .data], laidTests := true, laidLooks := .later }
def TermApartUptoCardSaid : Prop := Claim7.holds Tryz.pinned (.plain (OpenSpec.upto termApartSpec)) termApartUptoCard

/-- THE SECOND FORM's CARD OF 'plumblinelaw03.TermLooks'. -/
def termLooksUptoCard : Claim7 := { stood := { row := termLooksUptoRow, standIns := [], harness := (true, "97a79c8e33111ce0a29b5e1069275e6f92a3bc254075085a68b535fbfc7ec89a"), looks := false }, kinds := [], alts := [], laidByText := true, laidKinds := [.data, .data, .data], laidTests := true, laidLooks := .later }
def TermLooksUptoCardSaid : Prop := Claim7.holds Tryz.pinned (.plain (OpenSpec.upto termLooksSpec)) termLooksUptoCard

/-- THE SECOND FORM's CARD OF 'plumblinelaw03.TermLinear'. -/
def termLinearUptoCard : Claim7 := { stood := { row := termLinearUptoRow, standIns := [], harness := (true, "97a79c8e33111ce0a29b5e1069275e6f92a3bc254075085a68b535fbfc7ec89a"), looks := false }, kinds := [], alts := [], laidByText := true, laidKinds := [.data, .data, .data], laidTests := true, laidLooks := .later }
def TermLinearUptoCardSaid : Prop := Claim7.holds Tryz.pinned (.plain (OpenSpec.upto termLinearSpec)) termLinearUptoCard

/-- THE SECOND FORM's CARD OF 'plumblinelaw03.TermShrinks'. -/
def termShrinksUptoCard : Claim7 := { stood := { row := termShrinksUptoRow, standIns := [], harness := (true, "97a79c8e33111ce0a29b5e1069275e6f92a3bc254075085a68b535fbfc7ec89a"), looks := false }, kinds := [], alts := [], laidByText := true, laidKinds := [.data, .data, .data], laidTests := true, laidLooks := .later }
def TermShrinksUptoCardSaid : Prop := Claim7.holds Tryz.pinned (.plain (OpenSpec.upto termShrinksSpec)) termShrinksUptoCard

/-- THE SECOND FORM's CARD OF 'plumblinelaw03.TermPutValues'. -/
def termPutValuesUptoCard : Claim7 := { stood := { row := termPutValuesUptoRow, standIns := [], harness := (true, "97a79c8e33111ce0a29b5e1069275e6f92a3bc254075085a68b535fbfc7ec89a"), looks := false }, kinds := [], alts := [], laidByText := true, laidKinds := [.data, .data, .data], laidTests := true, laidLooks := .later }
def TermPutValuesUptoCardSaid : Prop := Claim7.holds Tryz.pinned (.plain (OpenSpec.upto termPutValuesSpec)) termPutValuesUptoCard
end Rows
end Go.Proofs.YtekhnajfdaknnaaGreatDoor
