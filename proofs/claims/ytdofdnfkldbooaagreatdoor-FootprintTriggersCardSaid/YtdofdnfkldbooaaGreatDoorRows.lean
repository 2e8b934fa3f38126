/-
  NARROWER THAN 'FOR EVERY INPUT', by the rows' own cells (each row's printed sentence says how): FootprintTriggers: laid · FootprintWrites: laid · FootprintReads: laid.
  DERIVED. THE GIVEN ROWS OF THIS SEAT. 3 by the template 'for every input the law returns true; each argument reads behind the call as it read before'; 0 by the template 'total and deterministic' (their statements: YtdofdnfkldbooaaGreatDoorTotals.lean).
  GIVEN WITH THE SEED: the statements are not yours to turn. If you find one false, say at which input.
  Laid BY PROGRAM, IN A SANDBOX (cutbox-rows.mjs): the forced cells as the released guide's own fill.sh prints them over the translation f74936edff5ed294… (all of the seat's roots in one cut). By AI agents, Wed Nov 11 2026. No macro, syntax, notation, axiom, sorry.
-/
import Derived.Test.YtdofdnfkldbooaaGreatDoorChecked
import GoSem.Claim
import GoSem.ClaimJoined
import GoSem.ClaimMapViews
import Derived.JoinedTies
import Derived.KernelRfl
namespace Go.Proofs.YtdofdnfkldbooaaGreatDoor
/- THE CELL 'sum', in the pinned program and in every row, IS THE sha256 OF THE DUMP (.gsa) THAT YtdofdnfkldbooaaGreatDoorProg.lean LOADS. Nothing in Lean hashes anything: it is a label: what it is worth is what the hold of that sum in a sandbox is worth. -/
noncomputable def Tryz.pinned : Pinned := { name := "ytdofdnfkldbooaagreatdoor", sum := "f74936edff5ed294b32a9eabf555be3529b4ad7e052f291a215a3b4dcc6dd3c0", checked := Tryz.checked }
namespace Rows
def none {H : Type} : Left H := { results := [], args := [] }

/- WHAT THE LISTED PACKAGE-LEVEL VARIABLES READ AS WHEN THE CALL BEGINS. Each datum BY PROGRAM (the guide's laid-datum.mjs) off the statement by which the dump's own 'gosem.cut.vars' lays the variable. In a bare row this is a premise. The card (YtdofdnfkldbooaaGreatDoorCards.lean) ties it to the program's text. -/
def laid_triggerstore_triggerstoreworld_triggerNames {H : Type} : DataW H := .agg [.lit (.string [97, 97]), .lit (.string [98, 98]), .lit (.string [99, 99]), .lit (.string [100, 100]), .lit (.string [101, 101]), .lit (.string [102, 102]), .lit (.string [103, 103]), .lit (.string [104, 104])]
def laid_triggerstore_triggerstoreworld_words {H : Type} : DataW H := .agg [.lit (.string []), .lit (.string [97]), .lit (.string [98]), .lit (.string [105, 116, 39, 115]), .lit (.string [90, 32, 122]), .lit (.string [126])]

/-- 'triggerstorelaw26.FootprintTriggers': WHATEVER THE INPUT: true; the input reads as it did. -/
def footprintTriggersSpec : ChangeSpec := { name := "footprintTriggers", fn := fun _ => fun
  | [d] => { results := [.lit (.bool true)], args := [d] }
  | _ => none }
def footprintTriggersRow : OpenClaim := { program := "ytdofdnfkldbooaagreatdoor", sum := "f74936edff5ed294b32a9eabf555be3529b4ad7e052f291a215a3b4dcc6dd3c0", func := "triggerstore/triggerstorelaw26.FootprintTriggers", spec := "footprintTriggers", unfollowed := true, recurses := true, named := ["triggerstore/triggerstoreworld.triggerNames", "triggerstore/triggerstoreworld.words"], plainKeys := false, apart := false, laid := [("triggerstore/triggerstoreworld.triggerNames", laid_triggerstore_triggerstoreworld_triggerNames), ("triggerstore/triggerstoreworld.words", laid_triggerstore_triggerstoreworld_words)] }
def FootprintTriggersSaid : Prop := footprintTriggersRow.holds Tryz.pinned (OpenSpec.ofChange footprintTriggersSpec)

/-- ITS FALSE NEIGHBOUR: 'it returns false'. Refute it at one input. -/
def footprintTriggersWrong : ChangeSpec := { name := "footprintTriggers", fn := fun _ => fun
  | [d] => { results := [.lit (.bool false)], args := [d] }
  | _ => none }
def FootprintTriggersWrongFalsely : Prop := footprintTriggersRow.holds Tryz.pinned (OpenSpec.ofChange footprintTriggersWrong)

/-- 'triggerstorelaw26.FootprintWrites': WHATEVER THE INPUT: true; the input reads as it did. -/
def footprintWritesSpec : ChangeSpec := { name := "footprintWrites", fn := fun _ => fun
  | [d] => { results := [.lit (.bool true)], args := [d] }
  | _ => none }
def footprintWritesRow : OpenClaim := { program := "ytdofdnfkldbooaagreatdoor", sum := "f74936edff5ed294b32a9eabf555be3529b4ad7e052f291a215a3b4dcc6dd3c0", func := "triggerstore/triggerstorelaw26.FootprintWrites", spec := "footprintWrites", inPlace := ["internal/bytealg.abigen_runtime_cmpstring", "math/bits.Add64"], unfollowed := true, recurses := true, named := ["triggerstore/triggerstoreworld.triggerNames", "triggerstore/triggerstoreworld.words"], plainKeys := false, apart := false, laid := [("triggerstore/triggerstoreworld.triggerNames", laid_triggerstore_triggerstoreworld_triggerNames), ("triggerstore/triggerstoreworld.words", laid_triggerstore_triggerstoreworld_words)] }
def FootprintWritesSaid : Prop := footprintWritesRow.holds Tryz.pinned (OpenSpec.ofChange footprintWritesSpec)

/-- ITS FALSE NEIGHBOUR: 'it returns false'. Refute it at one input. -/
def footprintWritesWrong : ChangeSpec := { name := "footprintWrites", fn := fun _ => fun
  | [d] => { results := [.lit (.bool false)], args := [d] }
  | _ => none }
def FootprintWritesWrongFalsely : Prop := footprintWritesRow.holds Tryz.pinned (OpenSpec.ofChange footprintWritesWrong)

/-- 'triggerstorelaw26.FootprintReads': WHATEVER THE INPUT: true; the input reads as it did. -/
def footprintReadsSpec : ChangeSpec := { name := "footprintReads", fn := fun _ => fun
  | [d] => { results := [.lit (.bool true)], args := [d] }
  | _ => none }
def footprintReadsRow : OpenClaim := { program := "ytdofdnfkldbooaagreatdoor", sum := "f74936edff5ed294b32a9eabf555be3529b4ad7e052f291a215a3b4dcc6dd3c0", func := "triggerstore/triggerstorelaw26.FootprintReads", spec := "footprintReads", inPlace := ["math/bits.Add64", "internal/bytealg.abigen_runtime_cmpstring"], unfollowed := true, recurses := true, named := ["triggerstore/triggerstoreworld.triggerNames", "triggerstore/triggerstoreworld.words"], plainKeys := false, apart := false, laid := [("triggerstore/triggerstoreworld.triggerNames", laid_triggerstore_triggerstoreworld_triggerNames), ("triggerstore/triggerstoreworld.words", laid_triggerstore_triggerstoreworld_words)] }
def FootprintReadsSaid : Prop := footprintReadsRow.holds Tryz.pinned (OpenSpec.ofChange footprintReadsSpec)

/-- ITS FALSE NEIGHBOUR: 'it returns false'. Refute it at one input. -/
def footprintReadsWrong : ChangeSpec := { name := "footprintReads", fn := fun _ => fun
  | [d] => { results := [.lit (.bool false)], args := [d] }
  | _ => none }
def FootprintReadsWrongFalsely : Prop := footprintReadsRow.holds Tryz.pinned (OpenSpec.ofChange footprintReadsWrong)

/- THE SECOND FORM. 'bulk': how many values and letters a reading holds, each counted each time it is reached (what is shared counts as often as it is met; a slice's spare places count too). A statement '..UptoSaid' is the law's where the arguments, and the package variables that the reading takes, are together of bulk at most 1048576: NARROWER than '..Said'. Prove '..Said' where nothing that the law and all that it calls make is longer than what came in: it says more and counts as full. Else prove '..UptoSaid'. A law counts once. -/
mutual
def uptoBulk {H : Type} : DataW H → Nat
  | .lit (.string bytes) => bytes.length + 1
  | .lit _ => 1
  | .nil => 1
  | .ptr d => uptoBulk d + 1
  | .slice elems spare => uptoBulkAll elems + uptoBulkAll spare + 1
  | .agg parts => uptoBulkAll parts + 1
  | .iface _ d => uptoBulk d + 1
  | .map entries => uptoBulkEntries entries + 1
  | .held _ => 1
def uptoBulkAll {H : Type} : List (DataW H) → Nat
  | [] => 0
  | d :: r => uptoBulk d + uptoBulkAll r
def uptoBulkEntries {H : Type} : List (Lit × DataW H) → Nat
  | [] => 0
  | x :: r => uptoBulkEntry x + uptoBulkEntries r
def uptoBulkEntry {H : Type} : Lit × DataW H → Nat
  | (.string bytes, d) => bytes.length + uptoBulk d + 1
  | (_, d) => uptoBulk d + 1
 end
def uptoSmall : (H : Type) → List (DataW H) → Bool := fun _ ds => decide (uptoBulkAll ds ≤ 1048576)
def OpenSpec.upto (s : _root_.Go.ChangeSpec) : _root_.Go.OpenSpec := { _root_.Go.OpenSpec.ofChange s with cond := some uptoSmall }

/-- 'triggerstorelaw26.FootprintTriggers', WHERE WHAT IT READS IS OF BULK AT MOST 1048576: true; the input reads as it did. -/
def footprintTriggersUptoRow : OpenClaim := { program := "ytdofdnfkldbooaagreatdoor", sum := "f74936edff5ed294b32a9eabf555be3529b4ad7e052f291a215a3b4dcc6dd3c0", func := "triggerstore/triggerstorelaw26.FootprintTriggers", spec := "footprintTriggers", unfollowed := true, recurses := true, named := ["triggerstore/triggerstoreworld.triggerNames", "triggerstore/triggerstoreworld.words"], plainKeys := false, apart := false, laid := [("triggerstore/triggerstoreworld.triggerNames", laid_triggerstore_triggerstoreworld_triggerNames), ("triggerstore/triggerstoreworld.words", laid_triggerstore_triggerstoreworld_words)], narrowed := true }
def FootprintTriggersUptoSaid : Prop := footprintTriggersUptoRow.holds Tryz.pinned (OpenSpec.upto footprintTriggersSpec)

/-- 'triggerstorelaw26.FootprintWrites', WHERE WHAT IT READS IS OF BULK AT MOST 1048576: true; the input reads as it did. -/
def footprintWritesUptoRow : OpenClaim := { program := "ytdofdnfkldbooaagreatdoor", sum := "f74936edff5ed294b32a9eabf555be3529b4ad7e052f291a215a3b4dcc6dd3c0", func := "triggerstore/triggerstorelaw26.FootprintWrites", spec := "footprintWrites", inPlace := ["internal/bytealg.abigen_runtime_cmpstring", "math/bits.Add64"], unfollowed := true, recurses := true, named := ["triggerstore/triggerstoreworld.triggerNames", "triggerstore/triggerstoreworld.words"], plainKeys := false, apart := false, laid := [("triggerstore/triggerstoreworld.triggerNames", laid_triggerstore_triggerstoreworld_triggerNames), ("triggerstore/triggerstoreworld.words", laid_triggerstore_triggerstoreworld_words)], narrowed := true }
def FootprintWritesUptoSaid : Prop := footprintWritesUptoRow.holds Tryz.pinned (OpenSpec.upto footprintWritesSpec)

/-- 'triggerstorelaw26.FootprintReads', WHERE WHAT IT READS IS OF BULK AT MOST 1048576: true; the input reads as it did. -/
def footprintReadsUptoRow : OpenClaim := { program := "ytdofdnfkldbooaagreatdoor", sum := "f74936edff5ed294b32a9eabf555be3529b4ad7e052f291a215a3b4dcc6dd3c0", func := "triggerstore/triggerstorelaw26.FootprintReads", spec := "footprintReads", inPlace := ["math/bits.Add64", "internal/bytealg.abigen_runtime_cmpstring"], unfollowed := true, recurses := true, named := ["triggerstore/triggerstoreworld.triggerNames", "triggerstore/triggerstoreworld.words"], plainKeys := false, apart := false, laid := [("triggerstore/triggerstoreworld.triggerNames", laid_triggerstore_triggerstoreworld_triggerNames), ("triggerstore/triggerstoreworld.words", laid_triggerstore_triggerstoreworld_words)], narrowed := true }
def FootprintReadsUptoSaid : Prop := footprintReadsUptoRow.holds Tryz.pinned (OpenSpec.upto footprintReadsSpec)

end Rows
end Go.Proofs.YtdofdnfkldbooaaGreatDoor
