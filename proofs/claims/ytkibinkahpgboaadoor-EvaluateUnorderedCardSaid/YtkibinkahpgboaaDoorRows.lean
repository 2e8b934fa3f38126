/-
  NARROWER THAN 'FOR EVERY INPUT', by the rows' own cells (each row's printed sentence says how): EvaluateTyped: loops, laid · EvaluateCounts: laid · EvaluateUnordered: laid.
  DERIVED. THE GIVEN ROWS OF THIS SEAT. 3 by the template 'for every input the law returns true; each argument reads behind the call as it read before'; 0 by the template 'total and deterministic' (their statements: YtkibinkahpgboaaDoorTotals.lean).
  GIVEN WITH THE SEED: the statements are not yours to turn. If you find one false, say at which input.
  Laid BY PROGRAM, IN A SANDBOX (cutbox-rows.mjs): the forced cells as the released guide's own fill.sh prints them over the translation d0ea3376e8f26090… (all of the seat's roots in one cut). By AI agents, Wed Nov 11 2026. No macro, syntax, notation, axiom, sorry.
-/
import Derived.Test.YtkibinkahpgboaaDoorChecked
import GoSem.Claim
import GoSem.ClaimJoined
import GoSem.ClaimMapViews
import Derived.JoinedTies
import Derived.KernelRfl
namespace Go.Proofs.YtkibinkahpgboaaDoor
/- THE CELL 'sum', in the pinned program and in every row, IS THE sha256 OF THE DUMP (.gsa) THAT YtkibinkahpgboaaDoorProg.lean LOADS. Nothing in Lean hashes anything: it is a label: what it is worth is what the hold of that sum in a sandbox is worth. -/
noncomputable def Tryd.pinned : Pinned := { name := "ytkibinkahpgboaadoor", sum := "d0ea3376e8f26090ff8a1e5c074eee45aa8aa2c9d5f758d3f398a4d8fda48d8f", checked := Tryd.checked }
namespace Rows
def none {H : Type} : Left H := { results := [], args := [] }

/- WHAT THE LISTED PACKAGE-LEVEL VARIABLES READ AS WHEN THE CALL BEGINS. Each datum BY PROGRAM (the guide's laid-datum.mjs) off the statement by which the dump's own 'gosem.cut.vars' lays the variable. In a bare row this is a premise. The card (YtkibinkahpgboaaDoorCards.lean) ties it to the program's text. -/
def laid_triggerstore_triggerstoreworld_words {H : Type} : DataW H := .agg [.lit (.string []), .lit (.string [97]), .lit (.string [98]), .lit (.string [105, 116, 39, 115]), .lit (.string [90, 32, 122]), .lit (.string [126])]
def laid_triggerstore_triggerstoreworld_names {H : Type} : DataW H := .agg [.lit (.string [105, 100]), .lit (.string [110]), .lit (.string [109]), .lit (.string [98]), .lit (.string [115]), .lit (.string [120]), .lit (.string [97, 49, 95]), .lit (.string [97, 98, 99, 100, 101, 102, 103, 104, 105, 106, 107, 108])]

/-- 'triggerstorelaw15.EvaluateTyped': WHATEVER THE INPUT: true; the input reads as it did. -/
def evaluateTypedSpec : ChangeSpec := { name := "evaluateTyped", fn := fun _ => fun
  | [d1, d2] => { results := [.lit (.bool true)], args := [d1, d2] }
  | _ => none }
def evaluateTypedRow : OpenClaim := { program := "ytkibinkahpgboaadoor", sum := "d0ea3376e8f26090ff8a1e5c074eee45aa8aa2c9d5f758d3f398a4d8fda48d8f", func := "triggerstore/triggerstorelaw15.EvaluateTyped", spec := "evaluateTyped", inPlace := ["math/bits.Add64"], unfollowed := true, recurses := true, named := ["triggerstore/triggerstoreworld.words", "triggerstore/triggerstoreworld.names"], loops := true, apart := false, laid := [("triggerstore/triggerstoreworld.words", laid_triggerstore_triggerstoreworld_words), ("triggerstore/triggerstoreworld.names", laid_triggerstore_triggerstoreworld_names)] }
def EvaluateTypedSaid : Prop := evaluateTypedRow.holds Tryd.pinned (OpenSpec.ofChange evaluateTypedSpec)

/-- ITS FALSE NEIGHBOUR: 'it returns false'. Refute it at one input. -/
def evaluateTypedWrong : ChangeSpec := { name := "evaluateTyped", fn := fun _ => fun
  | [d1, d2] => { results := [.lit (.bool false)], args := [d1, d2] }
  | _ => none }
def EvaluateTypedWrongFalsely : Prop := evaluateTypedRow.holds Tryd.pinned (OpenSpec.ofChange evaluateTypedWrong)

/-- 'triggerstorelaw15.EvaluateCounts': WHATEVER THE INPUT: true; the input reads as it did. -/
def evaluateCountsSpec : ChangeSpec := { name := "evaluateCounts", fn := fun _ => fun
  | [d] => { results := [.lit (.bool true)], args := [d] }
  | _ => none }
def evaluateCountsRow : OpenClaim := { program := "ytkibinkahpgboaadoor", sum := "d0ea3376e8f26090ff8a1e5c074eee45aa8aa2c9d5f758d3f398a4d8fda48d8f", func := "triggerstore/triggerstorelaw15.EvaluateCounts", spec := "evaluateCounts", inPlace := ["math/bits.Add64"], unfollowed := true, recurses := true, named := ["triggerstore/triggerstoreworld.words"], apart := false, laid := [("triggerstore/triggerstoreworld.words", laid_triggerstore_triggerstoreworld_words)] }
def EvaluateCountsSaid : Prop := evaluateCountsRow.holds Tryd.pinned (OpenSpec.ofChange evaluateCountsSpec)

/-- ITS FALSE NEIGHBOUR: 'it returns false'. Refute it at one input. -/
def evaluateCountsWrong : ChangeSpec := { name := "evaluateCounts", fn := fun _ => fun
  | [d] => { results := [.lit (.bool false)], args := [d] }
  | _ => none }
def EvaluateCountsWrongFalsely : Prop := evaluateCountsRow.holds Tryd.pinned (OpenSpec.ofChange evaluateCountsWrong)

/-- 'triggerstorelaw15.EvaluateUnordered': WHATEVER THE INPUT: true; the input reads as it did. -/
def evaluateUnorderedSpec : ChangeSpec := { name := "evaluateUnordered", fn := fun _ => fun
  | [d] => { results := [.lit (.bool true)], args := [d] }
  | _ => none }
def evaluateUnorderedRow : OpenClaim := { program := "ytkibinkahpgboaadoor", sum := "d0ea3376e8f26090ff8a1e5c074eee45aa8aa2c9d5f758d3f398a4d8fda48d8f", func := "triggerstore/triggerstorelaw15.EvaluateUnordered", spec := "evaluateUnordered", inPlace := ["math/bits.Add64", "internal/bytealg.abigen_runtime_cmpstring"], unfollowed := true, recurses := true, named := ["triggerstore/triggerstoreworld.words"], apart := false, laid := [("triggerstore/triggerstoreworld.words", laid_triggerstore_triggerstoreworld_words)] }
def EvaluateUnorderedSaid : Prop := evaluateUnorderedRow.holds Tryd.pinned (OpenSpec.ofChange evaluateUnorderedSpec)

/-- ITS FALSE NEIGHBOUR: 'it returns false'. Refute it at one input. -/
def evaluateUnorderedWrong : ChangeSpec := { name := "evaluateUnordered", fn := fun _ => fun
  | [d] => { results := [.lit (.bool false)], args := [d] }
  | _ => none }
def EvaluateUnorderedWrongFalsely : Prop := evaluateUnorderedRow.holds Tryd.pinned (OpenSpec.ofChange evaluateUnorderedWrong)

/- THE SECOND FORM. 'bulk': how many values and letters a reading holds, each counted each time it is reached (what is shared counts as often as it is met; a slice's spare places count too). A statement '..UptoSaid' is the law's where the arguments, and the package variables that the reading takes, are together of bulk at most 1048576: NARROWER than '..Said'. Prove '..Said' where nothing that the law and all that it calls make is longer than what came in: it says more and counts as full. Else prove '..UptoSaid'. A law counts once. -/
mutual
def uptoBulk {H : Type} : DataW H → Nat
  | .lit (.string bytes) => bytes.length + 1
  | .lit _ => 1
  | .nil => 1
  | .ptr d => uptoBulk d + 1
  | .slice elems spare => uptoBulkAll elems + uptoBulkAll spare + 1
  | .agg parts => uptoBulkAll parts + 1
  | .iface _ d => uptoBulk d + 1
  | .map entries => uptoBulkEntries entries + 1
  | .held _ => 1
def uptoBulkAll {H : Type} : List (DataW H) → Nat
  | [] => 0
  | d :: r => uptoBulk d + uptoBulkAll r
def uptoBulkEntries {H : Type} : List (Lit × DataW H) → Nat
  | [] => 0
  | x :: r => uptoBulkEntry x + uptoBulkEntries r
def uptoBulkEntry {H : Type} : Lit × DataW H → Nat
  | (.string bytes, d) => bytes.length + uptoBulk d + 1
  | (_, d) => uptoBulk d + 1
 end
def uptoSmall : (H : Type) → List (DataW H) → Bool := fun _ ds => decide (uptoBulkAll ds ≤ 1048576)
def OpenSpec.upto (s : _root_.Go.ChangeSpec) : _root_.Go.OpenSpec := { _root_.Go.OpenSpec.ofChange s with cond := some uptoSmall }

/-- 'triggerstorelaw15.EvaluateTyped', WHERE WHAT IT READS IS OF BULK AT MOST 1048576: true; the input reads as it did. -/
def evaluateTypedUptoRow : OpenClaim := { program := "ytkibinkahpgboaadoor", sum := "d0ea3376e8f26090ff8a1e5c074eee45aa8aa2c9d5f758d3f398a4d8fda48d8f", func := "triggerstore/triggerstorelaw15.EvaluateTyped", spec := "evaluateTyped", inPlace := ["math/bits.Add64"], unfollowed := true, recurses := true, named := ["triggerstore/triggerstoreworld.words", "triggerstore/triggerstoreworld.names"], loops := true, apart := false, laid := [("triggerstore/triggerstoreworld.words", laid_triggerstore_triggerstoreworld_words), ("triggerstore/triggerstoreworld.names", laid_triggerstore_triggerstoreworld_names)], narrowed := true }
def EvaluateTypedUptoSaid : Prop := evaluateTypedUptoRow.holds Tryd.pinned (OpenSpec.upto evaluateTypedSpec)

/-- 'triggerstorelaw15.EvaluateCounts', WHERE WHAT IT READS IS OF BULK AT MOST 1048576: true; the input reads as it did. -/
def evaluateCountsUptoRow : OpenClaim := { program := "ytkibinkahpgboaadoor", sum := "d0ea3376e8f26090ff8a1e5c074eee45aa8aa2c9d5f758d3f398a4d8fda48d8f", func := "triggerstore/triggerstorelaw15.EvaluateCounts", spec := "evaluateCounts", inPlace := ["math/bits.Add64"], unfollowed := true, recurses := true, named := ["triggerstore/triggerstoreworld.words"], apart := false, laid := [("triggerstore/triggerstoreworld.words", laid_triggerstore_triggerstoreworld_words)], narrowed := true }
def EvaluateCountsUptoSaid : Prop := evaluateCountsUptoRow.holds Tryd.pinned (OpenSpec.upto evaluateCountsSpec)

/-- 'triggerstorelaw15.EvaluateUnordered', WHERE WHAT IT READS IS OF BULK AT MOST 1048576: true; the input reads as it did. -/
def evaluateUnorderedUptoRow : OpenClaim := { program := "ytkibinkahpgboaadoor", sum := "d0ea3376e8f26090ff8a1e5c074eee45aa8aa2c9d5f758d3f398a4d8fda48d8f", func := "triggerstore/triggerstorelaw15.EvaluateUnordered", spec := "evaluateUnordered", inPlace := ["math/bits.Add64", "internal/bytealg.abigen_runtime_cmpstring"], unfollowed := true, recurses := true, named := ["triggerstore/triggerstoreworld.words"], apart := false, laid := [("triggerstore/triggerstoreworld.words", laid_triggerstore_triggerstoreworld_words)], narrowed := true }
def EvaluateUnorderedUptoSaid : Prop := evaluateUnorderedUptoRow.holds Tryd.pinned (OpenSpec.upto evaluateUnorderedSpec)

end Rows
end Go.Proofs.YtkibinkahpgboaaDoor
