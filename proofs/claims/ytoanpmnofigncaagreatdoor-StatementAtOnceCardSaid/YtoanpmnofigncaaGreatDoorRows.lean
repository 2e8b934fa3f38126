/-
  NARROWER THAN 'FOR EVERY INPUT', by the rows' own cells (each row's printed sentence says how): StatementSees: laid · StatementAborts: laid · StatementAtOnce: laid.
  DERIVED. THE GIVEN ROWS OF THIS SEAT. 3 by the template 'for every input the law returns true; each argument reads behind the call as it read before'; 0 by the template 'total and deterministic' (their statements: YtoanpmnofigncaaGreatDoorTotals.lean).
  GIVEN WITH THE SEED: the statements are not yours to turn. If you find one false, say at which input.
  Laid BY PROGRAM, IN A SANDBOX (cutbox-rows.mjs): the forced cells as the released guide's own fill.sh prints them over the translation 6b0cb70558ed9ec6… (all of the seat's roots in one cut). By AI agents, Wed Nov 11 2026. No macro, syntax, notation, axiom, sorry.
-/
import Derived.Test.YtoanpmnofigncaaGreatDoorChecked
import GoSem.Claim
import GoSem.ClaimJoined
import GoSem.ClaimMapViews
import Derived.JoinedTies
import Derived.KernelRfl
namespace Go.Proofs.YtoanpmnofigncaaGreatDoor
/- THE CELL 'sum', in the pinned program and in every row, IS THE sha256 OF THE DUMP (.gsa) THAT YtoanpmnofigncaaGreatDoorProg.lean LOADS. Nothing in Lean hashes anything: it is a label: what it is worth is what the hold of that sum in a sandbox is worth. -/
noncomputable def Tryz.pinned : Pinned := { name := "ytoanpmnofigncaagreatdoor", sum := "6b0cb70558ed9ec69015d6c6bb126ba0ccf0dcecb4c4d4b8159f112d6ea5b2b4", checked := Tryz.checked }
namespace Rows
def none {H : Type} : Left H := { results := [], args := [] }

/- WHAT THE LISTED PACKAGE-LEVEL VARIABLES READ AS WHEN THE CALL BEGINS. Each datum BY PROGRAM (the guide's laid-datum.mjs) off the statement by which the dump's own 'gosem.cut.vars' lays the variable. In a bare row this is a premise. The card (YtoanpmnofigncaaGreatDoorCards.lean) ties it to the program's text. -/
def laid_triggerstore_triggerstoreworld_words {H : Type} : DataW H := .agg [.lit (.string []), .lit (.string [97]), .lit (.string [98]), .lit (.string [105, 116, 39, 115]), .lit (.string [90, 32, 122]), .lit (.string [126])]

/-- 'triggerstorelaw21.StatementSees': WHATEVER THE INPUT: true; the input reads as it did. -/
def statementSeesSpec : ChangeSpec := { name := "statementSees", fn := fun _ => fun
  | [d1, d2] => { results := [.lit (.bool true)], args := [d1, d2] }
  | _ => none }
def statementSeesRow : OpenClaim := { program := "ytoanpmnofigncaagreatdoor", sum := "6b0cb70558ed9ec69015d6c6bb126ba0ccf0dcecb4c4d4b8159f112d6ea5b2b4", func := "triggerstore/triggerstorelaw21.StatementSees", spec := "statementSees", inPlace := ["math/bits.Add64"], unfollowed := true, recurses := true, named := ["triggerstore/triggerstoreworld.words"], plainKeys := false, apart := false, laid := [("triggerstore/triggerstoreworld.words", laid_triggerstore_triggerstoreworld_words)] }
def StatementSeesSaid : Prop := statementSeesRow.holds Tryz.pinned (OpenSpec.ofChange statementSeesSpec)

/-- ITS FALSE NEIGHBOUR: 'it returns false'. Refute it at one input. -/
def statementSeesWrong : ChangeSpec := { name := "statementSees", fn := fun _ => fun
  | [d1, d2] => { results := [.lit (.bool false)], args := [d1, d2] }
  | _ => none }
def StatementSeesWrongFalsely : Prop := statementSeesRow.holds Tryz.pinned (OpenSpec.ofChange statementSeesWrong)

/-- 'triggerstorelaw21.StatementAborts': WHATEVER THE INPUT: true; the input reads as it did. -/
def statementAbortsSpec : ChangeSpec := { name := "statementAborts", fn := fun _ => fun
  | [d1, d2] => { results := [.lit (.bool true)], args := [d1, d2] }
  | _ => none }
def statementAbortsRow : OpenClaim := { program := "ytoanpmnofigncaagreatdoor", sum := "6b0cb70558ed9ec69015d6c6bb126ba0ccf0dcecb4c4d4b8159f112d6ea5b2b4", func := "triggerstore/triggerstorelaw21.StatementAborts", spec := "statementAborts", inPlace := ["math/bits.Add64", "internal/bytealg.abigen_runtime_cmpstring"], unfollowed := true, recurses := true, named := ["triggerstore/triggerstoreworld.words"], plainKeys := false, apart := false, laid := [("triggerstore/triggerstoreworld.words", laid_triggerstore_triggerstoreworld_words)] }
def StatementAbortsSaid : Prop := statementAbortsRow.holds Tryz.pinned (OpenSpec.ofChange statementAbortsSpec)

/-- ITS FALSE NEIGHBOUR: 'it returns false'. Refute it at one input. -/
def statementAbortsWrong : ChangeSpec := { name := "statementAborts", fn := fun _ => fun
  | [d1, d2] => { results := [.lit (.bool false)], args := [d1, d2] }
  | _ => none }
def StatementAbortsWrongFalsely : Prop := statementAbortsRow.holds Tryz.pinned (OpenSpec.ofChange statementAbortsWrong)

/-- 'triggerstorelaw21.StatementAtOnce': WHATEVER THE INPUT: true; the input reads as it did. -/
def statementAtOnceSpec : ChangeSpec := { name := "statementAtOnce", fn := fun _ => fun
  | [d1, d2] => { results := [.lit (.bool true)], args := [d1, d2] }
  | _ => none }
def statementAtOnceRow : OpenClaim := { program := "ytoanpmnofigncaagreatdoor", sum := "6b0cb70558ed9ec69015d6c6bb126ba0ccf0dcecb4c4d4b8159f112d6ea5b2b4", func := "triggerstore/triggerstorelaw21.StatementAtOnce", spec := "statementAtOnce", inPlace := ["math/bits.Add64", "internal/bytealg.abigen_runtime_cmpstring"], unfollowed := true, recurses := true, named := ["triggerstore/triggerstoreworld.words"], plainKeys := false, apart := false, laid := [("triggerstore/triggerstoreworld.words", laid_triggerstore_triggerstoreworld_words)] }
def StatementAtOnceSaid : Prop := statementAtOnceRow.holds Tryz.pinned (OpenSpec.ofChange statementAtOnceSpec)

/-- ITS FALSE NEIGHBOUR: 'it returns false'. Refute it at one input. -/
def statementAtOnceWrong : ChangeSpec := { name := "statementAtOnce", fn := fun _ => fun
  | [d1, d2] => { results := [.lit (.bool false)], args := [d1, d2] }
  | _ => none }
def StatementAtOnceWrongFalsely : Prop := statementAtOnceRow.holds Tryz.pinned (OpenSpec.ofChange statementAtOnceWrong)

/- THE SECOND FORM. 'bulk': how many values and letters a reading holds, each counted each time it is reached (what is shared counts as often as it is met; a slice's spare places count too). A statement '..UptoSaid' is the law's where the arguments, and the package variables that the reading takes, are together of bulk at most 1048576: NARROWER than '..Said'. Prove '..Said' where nothing that the law and all that it calls make is longer than what came in: it says more and counts as full. Else prove '..UptoSaid'. A law counts once. -/
mutual
def uptoBulk {H : Type} : DataW H → Nat
  | .lit (.string bytes) => bytes.length + 1
  | .lit _ => 1
  | .nil => 1
  | .ptr d => uptoBulk d + 1
  | .slice elems spare => uptoBulkAll elems + uptoBulkAll spare + 1
  | .agg parts => uptoBulkAll parts + 1
  | .iface _ d => uptoBulk d + 1
  | .map entries => uptoBulkEntries entries + 1
  | .held _ => 1
def uptoBulkAll {H : Type} : List (DataW H) → Nat
  | [] => 0
  | d :: r => uptoBulk d + uptoBulkAll r
def uptoBulkEntries {H : Type} : List (Lit × DataW H) → Nat
  | [] => 0
  | x :: r => uptoBulkEntry x + uptoBulkEntries r
def uptoBulkEntry {H : Type} : Lit × DataW H → Nat
  | (.string bytes, d) => bytes.length + uptoBulk d + 1
  | (_, d) => uptoBulk d + 1
 end
def uptoSmall : (H : Type) → List (DataW H) → Bool := fun _ ds => decide (uptoBulkAll ds ≤ 1048576)
def OpenSpec.upto (s : _root_.Go.ChangeSpec) : _root_.Go.OpenSpec := { _root_.Go.OpenSpec.ofChange s with cond := some uptoSmall }

/-- 'triggerstorelaw21.StatementSees', WHERE WHAT IT READS IS OF BULK AT MOST 1048576: true; the input reads as it did. -/
def statementSeesUptoRow : OpenClaim := { program := "ytoanpmnofigncaagreatdoor", sum := "6b0cb70558ed9ec69015d6c6bb126ba0ccf0dcecb4c4d4b8159f112d6ea5b2b4", func := "triggerstore/triggerstorelaw21.StatementSees", spec := "statementSees", inPlace := ["math/bits.Add64"], unfollowed := true, recurses := true, named := ["triggerstore/triggerstoreworld.words"], plainKeys := false, apart := false, laid := [("triggerstore/triggerstoreworld.words", laid_triggerstore_triggerstoreworld_words)], narrowed := true }
def StatementSeesUptoSaid : Prop := statementSeesUptoRow.holds Tryz.pinned (OpenSpec.upto statementSeesSpec)

/-- 'triggerstorelaw21.StatementAborts', WHERE WHAT IT READS IS OF BULK AT MOST 1048576: true; the input reads as it did. -/
def statementAbortsUptoRow : OpenClaim := { program := "ytoanpmnofigncaagreatdoor", sum := "6b0cb70558ed9ec69015d6c6bb126ba0ccf0dcecb4c4d4b8159f112d6ea5b2b4", func := "triggerstore/triggerstorelaw21.StatementAborts", spec := "statementAborts", inPlace := ["math/bits.Add64", "internal/bytealg.abigen_runtime_cmpstring"], unfollowed := true, recurses := true, named := ["triggerstore/triggerstoreworld.words"], plainKeys := false, apart := false, laid := [("triggerstore/triggerstoreworld.words", laid_triggerstore_triggerstoreworld_words)], narrowed := true }
def StatementAbortsUptoSaid : Prop := statementAbortsUptoRow.holds Tryz.pinned (OpenSpec.upto statementAbortsSpec)

/-- 'triggerstorelaw21.StatementAtOnce', WHERE WHAT IT READS IS OF BULK AT MOST 1048576: true; the input reads as it did. -/
def statementAtOnceUptoRow : OpenClaim := { program := "ytoanpmnofigncaagreatdoor", sum := "6b0cb70558ed9ec69015d6c6bb126ba0ccf0dcecb4c4d4b8159f112d6ea5b2b4", func := "triggerstore/triggerstorelaw21.StatementAtOnce", spec := "statementAtOnce", inPlace := ["math/bits.Add64", "internal/bytealg.abigen_runtime_cmpstring"], unfollowed := true, recurses := true, named := ["triggerstore/triggerstoreworld.words"], plainKeys := false, apart := false, laid := [("triggerstore/triggerstoreworld.words", laid_triggerstore_triggerstoreworld_words)], narrowed := true }
def StatementAtOnceUptoSaid : Prop := statementAtOnceUptoRow.holds Tryz.pinned (OpenSpec.upto statementAtOnceSpec)

end Rows
end Go.Proofs.YtoanpmnofigncaaGreatDoor
