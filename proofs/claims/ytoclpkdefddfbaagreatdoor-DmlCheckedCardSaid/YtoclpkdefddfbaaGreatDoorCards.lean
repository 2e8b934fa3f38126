/-
  DERIVED. GIVEN WITH THE SEED: THE CARDS: each row of YtoclpkdefddfbaaGreatDoorRows.lean that lists a variable, with what it lists TIED to the program's text (the seventh form; the later family's looks); each row that meets fmt, with fmt's text TOLD by the authors' own Lean function (tested against real Go, not proved from fmt's source: count such statements apart). THE CARD IS WHAT COUNTS. Prove the row's statement (the work); the ties are given (YtoclpkdefddfbaaGreatDoorTie.lean); close each card by the builder's one call (the guide's Derived/Test/ToyasCard.lean, 'card_holds'). Laid BY PROGRAM, IN A SANDBOX (cutbox-door.mjs). By AI agents, Wed Nov 11 2026. No macro, syntax, notation, axiom, sorry.
-/
import Derived.Test.YtoclpkdefddfbaaGreatDoorRows
import GoSem.ClaimSeven
namespace Go.Proofs.YtoclpkdefddfbaaGreatDoor
namespace Rows

/-- THE TIED CARD OF 'triggerstorelaw16.DmlChecked'. -/
def dmlCheckedCard : Claim7 := { stood := { row := dmlCheckedRow, standIns := [], harness := (true, "c800de03e0c08c58c2056f5fb640ec93ef503727b034fb1586273607695c9477"), looks := false }, kinds := [], alts := [], laidByText := true, laidKinds := [.data], laidTests := true, laidLooks := .later }
def DmlCheckedCardSaid : Prop := Claim7.holds Tryz.pinned (.plain (OpenSpec.ofChange dmlCheckedSpec)) dmlCheckedCard

/-- THE TIED CARD OF 'triggerstorelaw16.DmlTwice'. -/
def dmlTwiceCard : Claim7 := { stood := { row := dmlTwiceRow, standIns := [], harness := (true, "c800de03e0c08c58c2056f5fb640ec93ef503727b034fb1586273607695c9477"), looks := false }, kinds := [], alts := [], laidByText := true, laidKinds := [.data], laidTests := true, laidLooks := .later }
def DmlTwiceCardSaid : Prop := Claim7.holds Tryz.pinned (.plain (OpenSpec.ofChange dmlTwiceSpec)) dmlTwiceCard

/-- THE TIED CARD OF 'triggerstorelaw16.DmlTouches'. -/
def dmlTouchesCard : Claim7 := { stood := { row := dmlTouchesRow, standIns := [], harness := (true, "c800de03e0c08c58c2056f5fb640ec93ef503727b034fb1586273607695c9477"), looks := false }, kinds := [], alts := [], laidByText := true, laidKinds := [.data], laidTests := true, laidLooks := .later }
def DmlTouchesCardSaid : Prop := Claim7.holds Tryz.pinned (.plain (OpenSpec.ofChange dmlTouchesSpec)) dmlTouchesCard

/-- THE SECOND FORM's CARD OF 'triggerstorelaw16.DmlChecked'. -/
def dmlCheckedUptoCard : Claim7 := { stood := { row := dmlCheckedUptoRow, standIns := [], harness := (true, "c800de03e0c08c58c2056f5fb640ec93ef503727b034fb1586273607695c9477"), looks := false }, kinds := [], alts := [], laidByText := true, laidKinds := [.data], laidTests := true, laidLooks := .later }
def DmlCheckedUptoCardSaid : Prop := Claim7.holds Tryz.pinned (.plain (OpenSpec.upto dmlCheckedSpec)) dmlCheckedUptoCard

/-- THE SECOND FORM's CARD OF 'triggerstorelaw16.DmlTwice'. -/
def dmlTwiceUptoCard : Claim7 := { stood := { row := dmlTwiceUptoRow, standIns := [], harness := (true, "c800de03e0c08c58c2056f5fb640ec93ef503727b034fb1586273607695c9477"), looks := false }, kinds := [], alts := [], laidByText := true, laidKinds := [.data], laidTests := true, laidLooks := .later }
def DmlTwiceUptoCardSaid : Prop := Claim7.holds Tryz.pinned (.plain (OpenSpec.upto dmlTwiceSpec)) dmlTwiceUptoCard

/-- THE SECOND FORM's CARD OF 'triggerstorelaw16.DmlTouches'. -/
def dmlTouchesUptoCard : Claim7 := { stood := { row := dmlTouchesUptoRow, standIns := [], harness := (true, "c800de03e0c08c58c2056f5fb640ec93ef503727b034fb1586273607695c9477"), looks := false }, kinds := [], alts := [], laidByText := true, laidKinds := [.data], laidTests := true, laidLooks := .later }
def DmlTouchesUptoCardSaid : Prop := Claim7.holds Tryz.pinned (.plain (OpenSpec.upto dmlTouchesSpec)) dmlTouchesUptoCard
end Rows
end Go.Proofs.YtoclpkdefddfbaaGreatDoor
