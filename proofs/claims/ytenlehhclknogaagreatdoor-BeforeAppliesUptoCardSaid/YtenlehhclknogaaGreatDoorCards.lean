/-
  DERIVED. GIVEN WITH THE SEED: THE CARDS: each row of YtenlehhclknogaaGreatDoorRows.lean that lists a variable, with what it lists TIED to the program's text (the seventh form; the later family's looks); each row that meets fmt, with fmt's text TOLD by the authors' own Lean function (tested against real Go, not proved from fmt's source: count such statements apart). THE CARD IS WHAT COUNTS. Prove the row's statement (the work); the ties are given (YtenlehhclknogaaGreatDoorTie.lean); close each card by the builder's one call (the guide's Derived/Test/ToyasCard.lean, 'card_holds'). Laid BY PROGRAM, IN A SANDBOX (cutbox-door.mjs). By AI agents, Wed Nov 11 2026. No macro, syntax, notation, axiom, sorry.
-/
import Derived.Test.YtenlehhclknogaaGreatDoorRows
import GoSem.ClaimSeven
namespace Go.Proofs.YtenlehhclknogaaGreatDoor
namespace Rows

/-- THE TIED CARD OF 'triggerstorelaw20.BeforeCommutes'. -/
def beforeCommutesCard : Claim7 := { stood := { row := beforeCommutesRow, standIns := [], harness := (true, "1b92733166e855178cbf3037dfea7e0d6c26ef03a1edd2bc792db65d1e0022b1"), looks := false }, kinds := [], alts := [], laidByText := true, laidKinds := [.data, .data], laidTests := true, laidLooks := .later }
def BeforeCommutesCardSaid : Prop := Claim7.holds Tryz.pinned (.plain (OpenSpec.ofChange beforeCommutesSpec)) beforeCommutesCard

/-- THE TIED CARD OF 'triggerstorelaw20.BeforeSets'. -/
def beforeSetsCard : Claim7 := { stood := { row := beforeSetsRow, standIns := [], harness := (true, "1b92733166e855178cbf3037dfea7e0d6c26ef03a1edd2bc792db65d1e0022b1"), looks := false }, kinds := [], alts := [], laidByText := true, laidKinds := [.data, .data], laidTests := true, laidLooks := .later }
def BeforeSetsCardSaid : Prop := Claim7.holds Tryz.pinned (.plain (OpenSpec.ofChange beforeSetsSpec)) beforeSetsCard

/-- THE TIED CARD OF 'triggerstorelaw20.BeforeApplies'. -/
def beforeAppliesCard : Claim7 := { stood := { row := beforeAppliesRow, standIns := [], harness := (true, "1b92733166e855178cbf3037dfea7e0d6c26ef03a1edd2bc792db65d1e0022b1"), looks := false }, kinds := [], alts := [], laidByText := true, laidKinds := [.data, .data, .data], laidTests := true, laidLooks := .later }
def BeforeAppliesCardSaid : Prop := Claim7.holds Tryz.pinned (.plain (OpenSpec.ofChange beforeAppliesSpec)) beforeAppliesCard

/-- THE SECOND FORM's CARD OF 'triggerstorelaw20.BeforeCommutes'. -/
def beforeCommutesUptoCard : Claim7 := { stood := { row := beforeCommutesUptoRow, standIns := [], harness := (true, "1b92733166e855178cbf3037dfea7e0d6c26ef03a1edd2bc792db65d1e0022b1"), looks := false }, kinds := [], alts := [], laidByText := true, laidKinds := [.data, .data], laidTests := true, laidLooks := .later }
def BeforeCommutesUptoCardSaid : Prop := Claim7.holds Tryz.pinned (.plain (OpenSpec.upto beforeCommutesSpec)) beforeCommutesUptoCard

/-- THE SECOND FORM's CARD OF 'triggerstorelaw20.BeforeSets'. -/
def beforeSetsUptoCard : Claim7 := { stood := { row := beforeSetsUptoRow, standIns := [], harness := (true, "1b92733166e855178cbf3037dfea7e0d6c26ef03a1edd2bc792db65d1e0022b1"), looks := false }, kinds := [], alts := [], laidByText := true, laidKinds := [.data, .data], laidTests := true, laidLooks := .later }
def BeforeSetsUptoCardSaid : Prop := Claim7.holds Tryz.pinned (.plain (OpenSpec.upto beforeSetsSpec)) beforeSetsUptoCard

/-- THE SECOND FORM's CARD OF 'triggerstorelaw20.BeforeApplies'. -/
def beforeAppliesUptoCard : Claim7 := { stood := { row := beforeAppliesUptoRow, standIns := [], harness := (true, "1b92733166e855178cbf3037dfea7e0d6c26ef03a1edd2bc792db65d1e0022b1"), looks := false }, kinds := [], alts := [], laidByText := true, laidKinds := [.data, .data, .data], laidTests := true, laidLooks := .later }
def BeforeAppliesUptoCardSaid : Prop := Claim7.holds Tryz.pinned (.plain (OpenSpec.upto beforeAppliesSpec)) beforeAppliesUptoCard
end Rows
end Go.Proofs.YtenlehhclknogaaGreatDoor
