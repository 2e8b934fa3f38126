/-
  NARROWER THAN 'FOR EVERY INPUT', by the rows' own cells (each row's printed sentence says how): FireSteps: laid · FireWhen: laid.
  DERIVED. THE GIVEN ROWS OF THIS SEAT. 2 by the template 'for every input the law returns true; each argument reads behind the call as it read before'; 0 by the template 'total and deterministic' (their statements: YtjbihenhlanepaaGreatDoorTotals.lean).
  GIVEN WITH THE SEED: the statements are not yours to turn. If you find one false, say at which input.
  Laid BY PROGRAM, IN A SANDBOX (cutbox-rows.mjs): the forced cells as the released guide's own fill.sh prints them over the translation ba0a169bfff9ced9… (all of the seat's roots in one cut). By AI agents, Wed Nov 11 2026. No macro, syntax, notation, axiom, sorry.
-/
import Derived.Test.YtjbihenhlanepaaGreatDoorChecked
import GoSem.Claim
import GoSem.ClaimJoined
import GoSem.ClaimMapViews
import Derived.JoinedTies
import Derived.KernelRfl
namespace Go.Proofs.YtjbihenhlanepaaGreatDoor
/- THE CELL 'sum', in the pinned program and in every row, IS THE sha256 OF THE DUMP (.gsa) THAT YtjbihenhlanepaaGreatDoorProg.lean LOADS. Nothing in Lean hashes anything: it is a label: what it is worth is what the hold of that sum in a sandbox is worth. -/
noncomputable def Tryz.pinned : Pinned := { name := "ytjbihenhlanepaagreatdoor", sum := "ba0a169bfff9ced9cd67bf73716218b4a7ff8afaca30d314dd02b91d9e2383a4", checked := Tryz.checked }
namespace Rows
def none {H : Type} : Left H := { results := [], args := [] }

/- WHAT THE LISTED PACKAGE-LEVEL VARIABLES READ AS WHEN THE CALL BEGINS. Each datum BY PROGRAM (the guide's laid-datum.mjs) off the statement by which the dump's own 'gosem.cut.vars' lays the variable. In a bare row this is a premise. The card (YtjbihenhlanepaaGreatDoorCards.lean) ties it to the program's text. -/
def laid_triggerstore_triggerstoreworld_words {H : Type} : DataW H := .agg [.lit (.string []), .lit (.string [97]), .lit (.string [98]), .lit (.string [105, 116, 39, 115]), .lit (.string [90, 32, 122]), .lit (.string [126])]

/-- 'triggerstorelaw23.FireSteps': WHATEVER THE INPUT: true; the input reads as it did. -/
def fireStepsSpec : ChangeSpec := { name := "fireSteps", fn := fun _ => fun
  | [d1, d2] => { results := [.lit (.bool true)], args := [d1, d2] }
  | _ => none }
def fireStepsRow : OpenClaim := { program := "ytjbihenhlanepaagreatdoor", sum := "ba0a169bfff9ced9cd67bf73716218b4a7ff8afaca30d314dd02b91d9e2383a4", func := "triggerstore/triggerstorelaw23.FireSteps", spec := "fireSteps", inPlace := ["math/bits.Add64"], unfollowed := true, recurses := true, named := ["triggerstore/triggerstoreworld.words"], plainKeys := false, apart := false, laid := [("triggerstore/triggerstoreworld.words", laid_triggerstore_triggerstoreworld_words)] }
def FireStepsSaid : Prop := fireStepsRow.holds Tryz.pinned (OpenSpec.ofChange fireStepsSpec)

/-- ITS FALSE NEIGHBOUR: 'it returns false'. Refute it at one input. -/
def fireStepsWrong : ChangeSpec := { name := "fireSteps", fn := fun _ => fun
  | [d1, d2] => { results := [.lit (.bool false)], args := [d1, d2] }
  | _ => none }
def FireStepsWrongFalsely : Prop := fireStepsRow.holds Tryz.pinned (OpenSpec.ofChange fireStepsWrong)

/-- 'triggerstorelaw23.FireWhen': WHATEVER THE INPUT: true; the input reads as it did. -/
def fireWhenSpec : ChangeSpec := { name := "fireWhen", fn := fun _ => fun
  | [d1, d2] => { results := [.lit (.bool true)], args := [d1, d2] }
  | _ => none }
def fireWhenRow : OpenClaim := { program := "ytjbihenhlanepaagreatdoor", sum := "ba0a169bfff9ced9cd67bf73716218b4a7ff8afaca30d314dd02b91d9e2383a4", func := "triggerstore/triggerstorelaw23.FireWhen", spec := "fireWhen", inPlace := ["math/bits.Add64"], unfollowed := true, recurses := true, named := ["triggerstore/triggerstoreworld.words"], plainKeys := false, apart := false, laid := [("triggerstore/triggerstoreworld.words", laid_triggerstore_triggerstoreworld_words)] }
def FireWhenSaid : Prop := fireWhenRow.holds Tryz.pinned (OpenSpec.ofChange fireWhenSpec)

/-- ITS FALSE NEIGHBOUR: 'it returns false'. Refute it at one input. -/
def fireWhenWrong : ChangeSpec := { name := "fireWhen", fn := fun _ => fun
  | [d1, d2] => { results := [.lit (.bool false)], args := [d1, d2] }
  | _ => none }
def FireWhenWrongFalsely : Prop := fireWhenRow.holds Tryz.pinned (OpenSpec.ofChange fireWhenWrong)

/- THE SECOND FORM. 'bulk': how many values and letters a reading holds, each counted each time it is reached (what is shared counts as often as it is met; a slice's spare places count too). A statement '..UptoSaid' is the law's where the arguments, and the package variables that the reading takes, are together of bulk at most 1048576: NARROWER than '..Said'. Prove '..Said' where nothing that the law and all that it calls make is longer than what came in: it says more and counts as full. Else prove '..UptoSaid'. A law counts once. -/
mutual
def uptoBulk {H : Type} : DataW H → Nat
  | .lit (.string bytes) => bytes.length + 1
  | .lit _ => 1
  | .nil => 1
  | .ptr d => uptoBulk d + 1
  | .slice elems spare => uptoBulkAll elems + uptoBulkAll spare + 1
  | .agg parts => uptoBulkAll parts + 1
  | .iface _ d => uptoBulk d + 1
  | .map entries => uptoBulkEntries entries + 1
  | .held _ => 1
def uptoBulkAll {H : Type} : List (DataW H) → Nat
  | [] => 0
  | d :: r => uptoBulk d + uptoBulkAll r
def uptoBulkEntries {H : Type} : List (Lit × DataW H) → Nat
  | [] => 0
  | x :: r => uptoBulkEntry x + uptoBulkEntries r
def uptoBulkEntry {H : Type} : Lit × DataW H → Nat
  | (.string bytes, d) => bytes.length + uptoBulk d + 1
  | (_, d) => uptoBulk d + 1
 end
def uptoSmall : (H : Type) → List (DataW H) → Bool := fun _ ds => decide (uptoBulkAll ds ≤ 1048576)
def OpenSpec.upto (s : _root_.Go.ChangeSpec) : _root_.Go.OpenSpec := { _root_.Go.OpenSpec.ofChange s with cond := some uptoSmall }

/-- 'triggerstorelaw23.FireSteps', WHERE WHAT IT READS IS OF BULK AT MOST 1048576: true; the input reads as it did. -/
def fireStepsUptoRow : OpenClaim := { program := "ytjbihenhlanepaagreatdoor", sum := "ba0a169bfff9ced9cd67bf73716218b4a7ff8afaca30d314dd02b91d9e2383a4", func := "triggerstore/triggerstorelaw23.FireSteps", spec := "fireSteps", inPlace := ["math/bits.Add64"], unfollowed := true, recurses := true, named := ["triggerstore/triggerstoreworld.words"], plainKeys := false, apart := false, laid := [("triggerstore/triggerstoreworld.words", laid_triggerstore_triggerstoreworld_words)], narrowed := true }
def FireStepsUptoSaid : Prop := fireStepsUptoRow.holds Tryz.pinned (OpenSpec.upto fireStepsSpec)

/-- 'triggerstorelaw23.FireWhen', WHERE WHAT IT READS IS OF BULK AT MOST 1048576: true; the input reads as it did. -/
def fireWhenUptoRow : OpenClaim := { program := "ytjbihenhlanepaagreatdoor", sum := "ba0a169bfff9ced9cd67bf73716218b4a7ff8afaca30d314dd02b91d9e2383a4", func := "triggerstore/triggerstorelaw23.FireWhen", spec := "fireWhen", inPlace := ["math/bits.Add64"], unfollowed := true, recurses := true, named := ["triggerstore/triggerstoreworld.words"], plainKeys := false, apart := false, laid := [("triggerstore/triggerstoreworld.words", laid_triggerstore_triggerstoreworld_words)], narrowed := true }
def FireWhenUptoSaid : Prop := fireWhenUptoRow.holds Tryz.pinned (OpenSpec.upto fireWhenSpec)

end Rows
end Go.Proofs.YtjbihenhlanepaaGreatDoor
