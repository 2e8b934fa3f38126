/-
  DERIVED. GIVEN WITH THE SEED: THE CARDS: each row of YtkibinkahpgboaaDoorRows.lean that lists a variable, with what it lists TIED to the program's text (the seventh form; the later family's looks); each row that meets fmt, with fmt's text TOLD by the authors' own Lean function (tested against real Go, not proved from fmt's source: count such statements apart). THE CARD IS WHAT COUNTS. Prove the row's statement (the work); the ties are given (YtkibinkahpgboaaDoorTie.lean); close each card by the builder's one call (the guide's Derived/Test/ToyasCard.lean, 'card_holds'). Laid BY PROGRAM, IN A SANDBOX (cutbox-door.mjs). By AI agents, Wed Nov 11 2026. No macro, syntax, notation, axiom, sorry.
-/
import Derived.Test.YtkibinkahpgboaaDoorRows
import GoSem.ClaimSeven
namespace Go.Proofs.YtkibinkahpgboaaDoor
namespace Rows

/-- THE TIED CARD OF 'triggerstorelaw15.EvaluateTyped'. -/
def evaluateTypedCard : Claim7 := { stood := { row := evaluateTypedRow, standIns := [], harness := (true, "fab4ad87241fdcc48459edf0c05c75df0e8076aee804928c317df29c94b6158e"), looks := false }, kinds := [], alts := [], laidByText := true, laidKinds := [.data, .data], laidTests := true, laidLooks := .later }
def EvaluateTypedCardSaid : Prop := Claim7.holds Tryd.pinned (.plain (OpenSpec.ofChange evaluateTypedSpec)) evaluateTypedCard

/-- THE TIED CARD OF 'triggerstorelaw15.EvaluateCounts'. -/
def evaluateCountsCard : Claim7 := { stood := { row := evaluateCountsRow, standIns := [], harness := (true, "fab4ad87241fdcc48459edf0c05c75df0e8076aee804928c317df29c94b6158e"), looks := false }, kinds := [], alts := [], laidByText := true, laidKinds := [.data], laidTests := true, laidLooks := .later }
def EvaluateCountsCardSaid : Prop := Claim7.holds Tryd.pinned (.plain (OpenSpec.ofChange evaluateCountsSpec)) evaluateCountsCard

/-- THE TIED CARD OF 'triggerstorelaw15.EvaluateUnordered'. -/
def evaluateUnorderedCard : Claim7 := { stood := { row := evaluateUnorderedRow, standIns := [], harness := (true, "fab4ad87241fdcc48459edf0c05c75df0e8076aee804928c317df29c94b6158e"), looks := false }, kinds := [], alts := [], laidByText := true, laidKinds := [.data], laidTests := true, laidLooks := .later }
def EvaluateUnorderedCardSaid : Prop := Claim7.holds Tryd.pinned (.plain (OpenSpec.ofChange evaluateUnorderedSpec)) evaluateUnorderedCard

/-- THE SECOND FORM's CARD OF 'triggerstorelaw15.EvaluateTyped'. -/
def evaluateTypedUptoCard : Claim7 := { stood := { row := evaluateTypedUptoRow, standIns := [], harness := (true, "fab4ad87241fdcc48459edf0c05c75df0e8076aee804928c317df29c94b6158e"), looks := false }, kinds := [], alts := [], laidByText := true, laidKinds := [.data, .data], laidTests := true, laidLooks := .later }
def EvaluateTypedUptoCardSaid : Prop := Claim7.holds Tryd.pinned (.plain (OpenSpec.upto evaluateTypedSpec)) evaluateTypedUptoCard

/-- THE SECOND FORM's CARD OF 'triggerstorelaw15.EvaluateCounts'. -/
def evaluateCountsUptoCard : Claim7 := { stood := { row := evaluateCountsUptoRow, standIns := [], harness := (true, "fab4ad87241fdcc48459edf0c05c75df0e8076aee804928c317df29c94b6158e"), looks := false }, kinds := [], alts := [], laidByText := true, laidKinds := [.data], laidTests := true, laidLooks := .later }
def EvaluateCountsUptoCardSaid : Prop := Claim7.holds Tryd.pinned (.plain (OpenSpec.upto evaluateCountsSpec)) evaluateCountsUptoCard

/-- THE SECOND FORM's CARD OF 'triggerstorelaw15.EvaluateUnordered'. -/
def evaluateUnorderedUptoCard : Claim7 := { stood := { row := evaluateUnorderedUptoRow, standIns := [], harness := (true, "fab4ad87241fdcc48459edf0c05c75df0e8076aee804928c317df29c94b6158e"), looks := false }, kinds := [], alts := [], laidByText := true, laidKinds := [.data], laidTests := true, laidLooks := .later }
def EvaluateUnorderedUptoCardSaid : Prop := Claim7.holds Tryd.pinned (.plain (OpenSpec.upto evaluateUnorderedSpec)) evaluateUnorderedUptoCard
end Rows
end Go.Proofs.YtkibinkahpgboaaDoor
