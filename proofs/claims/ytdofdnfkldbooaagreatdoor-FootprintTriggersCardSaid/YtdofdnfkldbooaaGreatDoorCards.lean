/-
  DERIVED. GIVEN WITH THE SEED: THE CARDS: each row of YtdofdnfkldbooaaGreatDoorRows.lean that lists a variable, with what it lists TIED to the program's text (the seventh form; the later family's looks); each row that meets fmt, with fmt's text TOLD by the authors' own Lean function (tested against real Go, not proved from fmt's source: count such statements apart). THE CARD IS WHAT COUNTS. Prove the row's statement (the work); the ties are given (YtdofdnfkldbooaaGreatDoorTie.lean); close each card by the builder's one call (the guide's Derived/Test/ToyasCard.lean, 'card_holds'). Laid BY PROGRAM, IN A SANDBOX (cutbox-door.mjs). By AI agents, Wed Nov 11 2026. No macro, syntax, notation, axiom, sorry.
-/
import Derived.Test.YtdofdnfkldbooaaGreatDoorRows
import GoSem.ClaimSeven
namespace Go.Proofs.YtdofdnfkldbooaaGreatDoor
namespace Rows

/-- THE TIED CARD OF 'triggerstorelaw26.FootprintTriggers'. -/
def footprintTriggersCard : Claim7 := { stood := { row := footprintTriggersRow, standIns := [], harness := (true, "d4de2a312030db70241a718c5a0adfd249d63c94541df8872154c36694fd628b"), looks := false }, kinds := [], alts := [], laidByText := true, laidKinds := [.data, .data], laidTests := true, laidLooks := .later }
def FootprintTriggersCardSaid : Prop := Claim7.holds Tryz.pinned (.plain (OpenSpec.ofChange footprintTriggersSpec)) footprintTriggersCard

/-- THE TIED CARD OF 'triggerstorelaw26.FootprintWrites'. -/
def footprintWritesCard : Claim7 := { stood := { row := footprintWritesRow, standIns := [], harness := (true, "d4de2a312030db70241a718c5a0adfd249d63c94541df8872154c36694fd628b"), looks := false }, kinds := [], alts := [], laidByText := true, laidKinds := [.data, .data], laidTests := true, laidLooks := .later }
def FootprintWritesCardSaid : Prop := Claim7.holds Tryz.pinned (.plain (OpenSpec.ofChange footprintWritesSpec)) footprintWritesCard

/-- THE TIED CARD OF 'triggerstorelaw26.FootprintReads'. -/
def footprintReadsCard : Claim7 := { stood := { row := footprintReadsRow, standIns := [], harness := (true, "d4de2a312030db70241a718c5a0adfd249d63c94541df8872154c36694fd628b"), looks := false }, kinds := [], alts := [], laidByText := true, laidKinds := [.data, .data], laidTests := true, laidLooks := .later }
def FootprintReadsCardSaid : Prop := Claim7.holds Tryz.pinned (.plain (OpenSpec.ofChange footprintReadsSpec)) footprintReadsCard

/-- THE SECOND FORM's CARD OF 'triggerstorelaw26.FootprintTriggers'. -/
def footprintTriggersUptoCard : Claim7 := { stood := { row := footprintTriggersUptoRow, standIns := [], harness := (true, "d4de2a312030db70241a718c5a0adfd249d63c94541df8872154c36694fd628b"), looks := false }, kinds := [], alts := [], laidByText := true, laidKinds := [.data, .data], laidTests := true, laidLooks := .later }
def FootprintTriggersUptoCardSaid : Prop := Claim7.holds Tryz.pinned (.plain (OpenSpec.upto footprintTriggersSpec)) footprintTriggersUptoCard

/-- THE SECOND FORM's CARD OF 'triggerstorelaw26.FootprintWrites'. -/
def footprintWritesUptoCard : Claim7 := { stood := { row := footprintWritesUptoRow, standIns := [], harness := (true, "d4de2a312030db70241a718c5a0adfd249d63c94541df8872154c36694fd628b"), looks := false }, kinds := [], alts := [], laidByText := true, laidKinds := [.data, .data], laidTests := true, laidLooks := .later }
def FootprintWritesUptoCardSaid : Prop := Claim7.holds Tryz.pinned (.plain (OpenSpec.upto footprintWritesSpec)) footprintWritesUptoCard

/-- THE SECOND FORM's CARD OF 'triggerstorelaw26.FootprintReads'. -/
def footprintReadsUptoCard : Claim7 := { stood := { row := footprintReadsUptoRow, standIns := [], harness := (true, "d4de2a312030db70241a718c5a0adfd249d63c94541df8872154c36694fd628b"), looks := false }, kinds := [], alts := [], laidByText := true, laidKinds := [.data, .data], laidTests := true, laidLooks := .later }
def FootprintReadsUptoCardSaid : Prop := Claim7.holds Tryz.pinned (.plain (OpenSpec.upto footprintReadsSpec)) footprintReadsUptoCard
end Rows
end Go.Proofs.YtdofdnfkldbooaaGreatDoor
