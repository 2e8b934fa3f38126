/-
  DERIVED. GIVEN WITH THE SEED: THE CARDS: each row of YtjbihenhlanepaaGreatDoorRows.lean that lists a variable, with what it lists TIED to the program's text (the seventh form; the later family's looks); each row that meets fmt, with fmt's text TOLD by the authors' own Lean function (tested against real Go, not proved from fmt's source: count such statements apart). THE CARD IS WHAT COUNTS. Prove the row's statement (the work); the ties are given (YtjbihenhlanepaaGreatDoorTie.lean); close each card by the builder's one call (the guide's Derived/Test/ToyasCard.lean, 'card_holds'). Laid BY PROGRAM, IN A SANDBOX (cutbox-door.mjs). By AI agents, Wed Nov 11 2026. No macro, syntax, notation, axiom, sorry.
-/
import Derived.Test.YtjbihenhlanepaaGreatDoorRows
import GoSem.ClaimSeven
namespace Go.Proofs.YtjbihenhlanepaaGreatDoor
namespace Rows

/-- THE TIED CARD OF 'triggerstorelaw23.FireSteps'. -/
def fireStepsCard : Claim7 := { stood := { row := fireStepsRow, standIns := [], harness := (true, "57159850689b35436827696a9f72fa7b0989525bb97c66a2b2955ded8da7f547"), looks := false }, kinds := [], alts := [], laidByText := true, laidKinds := [.data], laidTests := true, laidLooks := .later }
def FireStepsCardSaid : Prop := Claim7.holds Tryz.pinned (.plain (OpenSpec.ofChange fireStepsSpec)) fireStepsCard

/-- THE TIED CARD OF 'triggerstorelaw23.FireWhen'. -/
def fireWhenCard : Claim7 := { stood := { row := fireWhenRow, standIns := [], harness := (true, "57159850689b35436827696a9f72fa7b0989525bb97c66a2b2955ded8da7f547"), looks := false }, kinds := [], alts := [], laidByText := true, laidKinds := [.data], laidTests := true, laidLooks := .later }
def FireWhenCardSaid : Prop := Claim7.holds Tryz.pinned (.plain (OpenSpec.ofChange fireWhenSpec)) fireWhenCard

/-- THE SECOND FORM's CARD OF 'triggerstorelaw23.FireSteps'. -/
def fireStepsUptoCard : Claim7 := { stood := { row := fireStepsUptoRow, standIns := [], harness := (true, "57159850689b35436827696a9f72fa7b0989525bb97c66a2b2955ded8da7f547"), looks := false }, kinds := [], alts := [], laidByText := true, laidKinds := [.data], laidTests := true, laidLooks := .later }
def FireStepsUptoCardSaid : Prop := Claim7.holds Tryz.pinned (.plain (OpenSpec.upto fireStepsSpec)) fireStepsUptoCard

/-- THE SECOND FORM's CARD OF 'triggerstorelaw23.FireWhen'. -/
def fireWhenUptoCard : Claim7 := { stood := { row := fireWhenUptoRow, standIns := [], harness := (true, "57159850689b35436827696a9f72fa7b0989525bb97c66a2b2955ded8da7f547"), looks := false }, kinds := [], alts := [], laidByText := true, laidKinds := [.data], laidTests := true, laidLooks := .later }
def FireWhenUptoCardSaid : Prop := Claim7.holds Tryz.pinned (.plain (OpenSpec.upto fireWhenSpec)) fireWhenUptoCard
end Rows
end Go.Proofs.YtjbihenhlanepaaGreatDoor
