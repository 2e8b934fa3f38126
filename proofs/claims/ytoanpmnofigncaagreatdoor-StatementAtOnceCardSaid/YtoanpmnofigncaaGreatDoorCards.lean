/-
  DERIVED. GIVEN WITH THE SEED: THE CARDS: each row of YtoanpmnofigncaaGreatDoorRows.lean that lists a variable, with what it lists TIED to the program's text (the seventh form; the later family's looks); each row that meets fmt, with fmt's text TOLD by the authors' own Lean function (tested against real Go, not proved from fmt's source: count such statements apart). THE CARD IS WHAT COUNTS. Prove the row's statement (the work); the ties are given (YtoanpmnofigncaaGreatDoorTie.lean); close each card by the builder's one call (the guide's Derived/Test/ToyasCard.lean, 'card_holds'). Laid BY PROGRAM, IN A SANDBOX (cutbox-door.mjs). By AI agents, Wed Nov 11 2026. No macro, syntax, notation, axiom, sorry.
-/
import Derived.Test.YtoanpmnofigncaaGreatDoorRows
import GoSem.ClaimSeven
namespace Go.Proofs.YtoanpmnofigncaaGreatDoor
namespace Rows

/-- THE TIED CARD OF 'triggerstorelaw21.StatementSees'. -/
def statementSeesCard : Claim7 := { stood := { row := statementSeesRow, standIns := [], harness := (true, "8306dbe26bddb3c5c69541f432812d6d29b90caf1e46bfbd84fb2a9e977ebb27"), looks := false }, kinds := [], alts := [], laidByText := true, laidKinds := [.data], laidTests := true, laidLooks := .later }
def StatementSeesCardSaid : Prop := Claim7.holds Tryz.pinned (.plain (OpenSpec.ofChange statementSeesSpec)) statementSeesCard

/-- THE TIED CARD OF 'triggerstorelaw21.StatementAborts'. -/
def statementAbortsCard : Claim7 := { stood := { row := statementAbortsRow, standIns := [], harness := (true, "8306dbe26bddb3c5c69541f432812d6d29b90caf1e46bfbd84fb2a9e977ebb27"), looks := false }, kinds := [], alts := [], laidByText := true, laidKinds := [.data], laidTests := true, laidLooks := .later }
def StatementAbortsCardSaid : Prop := Claim7.holds Tryz.pinned (.plain (OpenSpec.ofChange statementAbortsSpec)) statementAbortsCard

/-- THE TIED CARD OF 'triggerstorelaw21.StatementAtOnce'. -/
def statementAtOnceCard : Claim7 := { stood := { row := statementAtOnceRow, standIns := [], harness := (true, "8306dbe26bddb3c5c69541f432812d6d29b90caf1e46bfbd84fb2a9e977ebb27"), looks := false }, kinds := [], alts := [], laidByText := true, laidKinds := [.data], laidTests := true, laidLooks := .later }
def StatementAtOnceCardSaid : Prop := Claim7.holds Tryz.pinned (.plain (OpenSpec.ofChange statementAtOnceSpec)) statementAtOnceCard

/-- THE SECOND FORM's CARD OF 'triggerstorelaw21.StatementSees'. -/
def statementSeesUptoCard : Claim7 := { stood := { row := statementSeesUptoRow, standIns := [], harness := (true, "8306dbe26bddb3c5c69541f432812d6d29b90caf1e46bfbd84fb2a9e977ebb27"), looks := false }, kinds := [], alts := [], laidByText := true, laidKinds := [.data], laidTests := true, laidLooks := .later }
def StatementSeesUptoCardSaid : Prop := Claim7.holds Tryz.pinned (.plain (OpenSpec.upto statementSeesSpec)) statementSeesUptoCard

/-- THE SECOND FORM's CARD OF 'triggerstorelaw21.StatementAborts'. -/
def statementAbortsUptoCard : Claim7 := { stood := { row := statementAbortsUptoRow, standIns := [], harness := (true, "8306dbe26bddb3c5c69541f432812d6d29b90caf1e46bfbd84fb2a9e977ebb27"), looks := false }, kinds := [], alts := [], laidByText := true, laidKinds := [.data], laidTests := true, laidLooks := .later }
def StatementAbortsUptoCardSaid : Prop := Claim7.holds Tryz.pinned (.plain (OpenSpec.upto statementAbortsSpec)) statementAbortsUptoCard

/-- THE SECOND FORM's CARD OF 'triggerstorelaw21.StatementAtOnce'. -/
def statementAtOnceUptoCard : Claim7 := { stood := { row := statementAtOnceUptoRow, standIns := [], harness := (true, "8306dbe26bddb3c5c69541f432812d6d29b90caf1e46bfbd84fb2a9e977ebb27"), looks := false }, kinds := [], alts := [], laidByText := true, laidKinds := [.data], laidTests := true, laidLooks := .later }
def StatementAtOnceUptoCardSaid : Prop := Claim7.holds Tryz.pinned (.plain (OpenSpec.upto statementAtOnceSpec)) statementAtOnceUptoCard
end Rows
end Go.Proofs.YtoanpmnofigncaaGreatDoor
