/-
  DERIVED. GIVEN WITH THE SEED: THE CARDS: each row of YtphnhpapjafghaaGreatDoorRows.lean that lists a variable, with what it lists TIED to the program's text (the seventh form; the later family's looks); each row that meets fmt, with fmt's text TOLD by the authors' own Lean function (tested against real Go, not proved from fmt's source: count such statements apart). THE CARD IS WHAT COUNTS. Prove the row's statement (the work); the ties are given (YtphnhpapjafghaaGreatDoorTie.lean); close each card by the builder's one call (the guide's Derived/Test/ToyasCard.lean, 'card_holds'). Laid BY PROGRAM, IN A SANDBOX (cutbox-door.mjs). By AI agents, Wed Nov 11 2026. No macro, syntax, notation, axiom, sorry.
-/
import Derived.Test.YtphnhpapjafghaaGreatDoorRows
import GoSem.ClaimSeven
namespace Go.Proofs.YtphnhpapjafghaaGreatDoor
namespace Rows

/-- THE TIED CARD OF 'triggerstorelaw24.RoundsBudget'. -/
def roundsBudgetCard : Claim7 := { stood := { row := roundsBudgetRow, standIns := [], harness := (true, "7208b673d304247921c7d426823ad635009d2f1f99ea46d0b047bd43b5036aa8"), looks := false }, kinds := [], alts := [], laidByText := true, laidKinds := [.data, .data], laidTests := true, laidLooks := .later }
def RoundsBudgetCardSaid : Prop := Claim7.holds Tryz.pinned (.plain (OpenSpec.ofChange roundsBudgetSpec)) roundsBudgetCard

/-- THE TIED CARD OF 'triggerstorelaw24.RoundsPicks'. -/
def roundsPicksCard : Claim7 := { stood := { row := roundsPicksRow, standIns := [], harness := (true, "7208b673d304247921c7d426823ad635009d2f1f99ea46d0b047bd43b5036aa8"), looks := false }, kinds := [], alts := [], laidByText := true, laidKinds := [.data, .data], laidTests := true, laidLooks := .later }
def RoundsPicksCardSaid : Prop := Claim7.holds Tryz.pinned (.plain (OpenSpec.ofChange roundsPicksSpec)) roundsPicksCard

/-- THE TIED CARD OF 'triggerstorelaw24.RoundsQuiet'. -/
def roundsQuietCard : Claim7 := { stood := { row := roundsQuietRow, standIns := [], harness := (true, "7208b673d304247921c7d426823ad635009d2f1f99ea46d0b047bd43b5036aa8"), looks := false }, kinds := [], alts := [], laidByText := true, laidKinds := [.data, .data], laidTests := true, laidLooks := .later }
def RoundsQuietCardSaid : Prop := Claim7.holds Tryz.pinned (.plain (OpenSpec.ofChange roundsQuietSpec)) roundsQuietCard

/-- THE SECOND FORM's CARD OF 'triggerstorelaw24.RoundsBudget'. -/
def roundsBudgetUptoCard : Claim7 := { stood := { row := roundsBudgetUptoRow, standIns := [], harness := (true, "7208b673d304247921c7d426823ad635009d2f1f99ea46d0b047bd43b5036aa8"), looks := false }, kinds := [], alts := [], laidByText := true, laidKinds := [.data, .data], laidTests := true, laidLooks := .later }
def RoundsBudgetUptoCardSaid : Prop := Claim7.holds Tryz.pinned (.plain (OpenSpec.upto roundsBudgetSpec)) roundsBudgetUptoCard

/-- THE SECOND FORM's CARD OF 'triggerstorelaw24.RoundsPicks'. -/
def roundsPicksUptoCard : Claim7 := { stood := { row := roundsPicksUptoRow, standIns := [], harness := (true, "7208b673d304247921c7d426823ad635009d2f1f99ea46d0b047bd43b5036aa8"), looks := false }, kinds := [], alts := [], laidByText := true, laidKinds := [.data, .data], laidTests := true, laidLooks := .later }
def RoundsPicksUptoCardSaid : Prop := Claim7.holds Tryz.pinned (.plain (OpenSpec.upto roundsPicksSpec)) roundsPicksUptoCard

/-- THE SECOND FORM's CARD OF 'triggerstorelaw24.RoundsQuiet'. -/
def roundsQuietUptoCard : Claim7 := { stood := { row := roundsQuietUptoRow, standIns := [], harness := (true, "7208b673d304247921c7d426823ad635009d2f1f99ea46d0b047bd43b5036aa8"), looks := false }, kinds := [], alts := [], laidByText := true, laidKinds := [.data, .data], laidTests := true, laidLooks := .later }
def RoundsQuietUptoCardSaid : Prop := Claim7.holds Tryz.pinned (.plain (OpenSpec.upto roundsQuietSpec)) roundsQuietUptoCard
end Rows
end Go.Proofs.YtphnhpapjafghaaGreatDoor
