/-
  NARROWER THAN 'FOR EVERY INPUT', by the rows' own cells (each row's printed sentence says how): DmlChecked: laid · DmlTwice: laid · DmlTouches: laid.
  DERIVED. THE GIVEN ROWS OF THIS SEAT. 3 by the template 'for every input the law returns true; each argument reads behind the call as it read before'; 0 by the template 'total and deterministic' (their statements: YtoclpkdefddfbaaGreatDoorTotals.lean).
  GIVEN WITH THE SEED: the statements are not yours to turn. If you find one false, say at which input.
  Laid BY PROGRAM, IN A SANDBOX (cutbox-rows.mjs): the forced cells as the released guide's own fill.sh prints them over the translation 4c98c8eebe7a6721… (all of the seat's roots in one cut). By AI agents, Wed Nov 11 2026. No macro, syntax, notation, axiom, sorry.
-/
import Derived.Test.YtoclpkdefddfbaaGreatDoorChecked
import GoSem.Claim
import GoSem.ClaimJoined
import GoSem.ClaimMapViews
import Derived.JoinedTies
import Derived.KernelRfl
namespace Go.Proofs.YtoclpkdefddfbaaGreatDoor
/- THE CELL 'sum', in the pinned program and in every row, IS THE sha256 OF THE DUMP (.gsa) THAT YtoclpkdefddfbaaGreatDoorProg.lean LOADS. Nothing in Lean hashes anything: it is a label: what it is worth is what the hold of that sum in a sandbox is worth. -/
noncomputable def Tryz.pinned : Pinned := { name := "ytoclpkdefddfbaagreatdoor", sum := "4c98c8eebe7a672128d3f01b20f7463b3b90158ae5e5eb364801d063ede4b056", checked := Tryz.checked }
namespace Rows
def none {H : Type} : Left H := { results := [], args := [] }

/- WHAT THE LISTED PACKAGE-LEVEL VARIABLES READ AS WHEN THE CALL BEGINS. Each datum BY PROGRAM (the guide's laid-datum.mjs) off the statement by which the dump's own 'gosem.cut.vars' lays the variable. In a bare row this is a premise. The card (YtoclpkdefddfbaaGreatDoorCards.lean) ties it to the program's text. -/
def laid_triggerstore_triggerstoreworld_words {H : Type} : DataW H := .agg [.lit (.string []), .lit (.string [97]), .lit (.string [98]), .lit (.string [105, 116, 39, 115]), .lit (.string [90, 32, 122]), .lit (.string [126])]

/-- 'triggerstorelaw16.DmlChecked': WHATEVER THE INPUT: true; the input reads as it did. -/
def dmlCheckedSpec : ChangeSpec := { name := "dmlChecked", fn := fun _ => fun
  | [d] => { results := [.lit (.bool true)], args := [d] }
  | _ => none }
def dmlCheckedRow : OpenClaim := { program := "ytoclpkdefddfbaagreatdoor", sum := "4c98c8eebe7a672128d3f01b20f7463b3b90158ae5e5eb364801d063ede4b056", func := "triggerstore/triggerstorelaw16.DmlChecked", spec := "dmlChecked", inPlace := ["math/bits.Add64", "internal/bytealg.abigen_runtime_cmpstring"], unfollowed := true, recurses := true, named := ["triggerstore/triggerstoreworld.words"], plainKeys := false, apart := false, laid := [("triggerstore/triggerstoreworld.words", laid_triggerstore_triggerstoreworld_words)] }
def DmlCheckedSaid : Prop := dmlCheckedRow.holds Tryz.pinned (OpenSpec.ofChange dmlCheckedSpec)

/-- ITS FALSE NEIGHBOUR: 'it returns false'. Refute it at one input. -/
def dmlCheckedWrong : ChangeSpec := { name := "dmlChecked", fn := fun _ => fun
  | [d] => { results := [.lit (.bool false)], args := [d] }
  | _ => none }
def DmlCheckedWrongFalsely : Prop := dmlCheckedRow.holds Tryz.pinned (OpenSpec.ofChange dmlCheckedWrong)

/-- 'triggerstorelaw16.DmlTwice': WHATEVER THE INPUT: true; the input reads as it did. -/
def dmlTwiceSpec : ChangeSpec := { name := "dmlTwice", fn := fun _ => fun
  | [d] => { results := [.lit (.bool true)], args := [d] }
  | _ => none }
def dmlTwiceRow : OpenClaim := { program := "ytoclpkdefddfbaagreatdoor", sum := "4c98c8eebe7a672128d3f01b20f7463b3b90158ae5e5eb364801d063ede4b056", func := "triggerstore/triggerstorelaw16.DmlTwice", spec := "dmlTwice", inPlace := ["math/bits.Add64", "internal/bytealg.abigen_runtime_cmpstring"], unfollowed := true, recurses := true, named := ["triggerstore/triggerstoreworld.words"], plainKeys := false, apart := false, laid := [("triggerstore/triggerstoreworld.words", laid_triggerstore_triggerstoreworld_words)] }
def DmlTwiceSaid : Prop := dmlTwiceRow.holds Tryz.pinned (OpenSpec.ofChange dmlTwiceSpec)

/-- ITS FALSE NEIGHBOUR: 'it returns false'. Refute it at one input. -/
def dmlTwiceWrong : ChangeSpec := { name := "dmlTwice", fn := fun _ => fun
  | [d] => { results := [.lit (.bool false)], args := [d] }
  | _ => none }
def DmlTwiceWrongFalsely : Prop := dmlTwiceRow.holds Tryz.pinned (OpenSpec.ofChange dmlTwiceWrong)

/-- 'triggerstorelaw16.DmlTouches': WHATEVER THE INPUT: true; the input reads as it did. -/
def dmlTouchesSpec : ChangeSpec := { name := "dmlTouches", fn := fun _ => fun
  | [d] => { results := [.lit (.bool true)], args := [d] }
  | _ => none }
def dmlTouchesRow : OpenClaim := { program := "ytoclpkdefddfbaagreatdoor", sum := "4c98c8eebe7a672128d3f01b20f7463b3b90158ae5e5eb364801d063ede4b056", func := "triggerstore/triggerstorelaw16.DmlTouches", spec := "dmlTouches", inPlace := ["math/bits.Add64"], unfollowed := true, recurses := true, named := ["triggerstore/triggerstoreworld.words"], plainKeys := false, apart := false, laid := [("triggerstore/triggerstoreworld.words", laid_triggerstore_triggerstoreworld_words)] }
def DmlTouchesSaid : Prop := dmlTouchesRow.holds Tryz.pinned (OpenSpec.ofChange dmlTouchesSpec)

/-- ITS FALSE NEIGHBOUR: 'it returns false'. Refute it at one input. -/
def dmlTouchesWrong : ChangeSpec := { name := "dmlTouches", fn := fun _ => fun
  | [d] => { results := [.lit (.bool false)], args := [d] }
  | _ => none }
def DmlTouchesWrongFalsely : Prop := dmlTouchesRow.holds Tryz.pinned (OpenSpec.ofChange dmlTouchesWrong)

/- THE SECOND FORM. 'bulk': how many values and letters a reading holds, each counted each time it is reached (what is shared counts as often as it is met; a slice's spare places count too). A statement '..UptoSaid' is the law's where the arguments, and the package variables that the reading takes, are together of bulk at most 1048576: NARROWER than '..Said'. Prove '..Said' where nothing that the law and all that it calls make is longer than what came in: it says more and counts as full. Else prove '..UptoSaid'. A law counts once. -/
mutual
def uptoBulk {H : Type} : DataW H → Nat
  | .lit (.string bytes) => bytes.length + 1
  | .lit _ => 1
  | .nil => 1
  | .ptr d => uptoBulk d + 1
  | .slice elems spare => uptoBulkAll elems + uptoBulkAll spare + 1
  | .agg parts => uptoBulkAll parts + 1
  | .iface _ d => uptoBulk d + 1
  | .map entries => uptoBulkEntries entries + 1
  | .held _ => 1
def uptoBulkAll {H : Type} : List (DataW H) → Nat
  | [] => 0
  | d :: r => uptoBulk d + uptoBulkAll r
def uptoBulkEntries {H : Type} : List (Lit × DataW H) → Nat
  | [] => 0
  | x :: r => uptoBulkEntry x + uptoBulkEntries r
def uptoBulkEntry {H : Type} : Lit × DataW H → Nat
  | (.string bytes, d) => bytes.length + uptoBulk d + 1
  | (_, d) => uptoBulk d + 1
 end
def uptoSmall : (H : Type) → List (DataW H) → Bool := fun _ ds => decide (uptoBulkAll ds ≤ 1048576)
def OpenSpec.upto (s : _root_.Go.ChangeSpec) : _root_.Go.OpenSpec := { _root_.Go.OpenSpec.ofChange s with cond := some uptoSmall }

/-- 'triggerstorelaw16.DmlChecked', WHERE WHAT IT READS IS OF BULK AT MOST 1048576: true; the input reads as it did. -/
def dmlCheckedUptoRow : OpenClaim := { program := "ytoclpkdefddfbaagreatdoor", sum := "4c98c8eebe7a672128d3f01b20f7463b3b90158ae5e5eb364801d063ede4b056", func := "triggerstore/triggerstorelaw16.DmlChecked", spec := "dmlChecked", inPlace := ["math/bits.Add64", "internal/bytealg.abigen_runtime_cmpstring"], unfollowed := true, recurses := true, named := ["triggerstore/triggerstoreworld.words"], plainKeys := false, apart := false, laid := [("triggerstore/triggerstoreworld.words", laid_triggerstore_triggerstoreworld_words)], narrowed := true }
def DmlCheckedUptoSaid : Prop := dmlCheckedUptoRow.holds Tryz.pinned (OpenSpec.upto dmlCheckedSpec)

/-- 'triggerstorelaw16.DmlTwice', WHERE WHAT IT READS IS OF BULK AT MOST 1048576: true; the input reads as it did. -/
def dmlTwiceUptoRow : OpenClaim := { program := "ytoclpkdefddfbaagreatdoor", sum := "4c98c8eebe7a672128d3f01b20f7463b3b90158ae5e5eb364801d063ede4b056", func := "triggerstore/triggerstorelaw16.DmlTwice", spec := "dmlTwice", inPlace := ["math/bits.Add64", "internal/bytealg.abigen_runtime_cmpstring"], unfollowed := true, recurses := true, named := ["triggerstore/triggerstoreworld.words"], plainKeys := false, apart := false, laid := [("triggerstore/triggerstoreworld.words", laid_triggerstore_triggerstoreworld_words)], narrowed := true }
def DmlTwiceUptoSaid : Prop := dmlTwiceUptoRow.holds Tryz.pinned (OpenSpec.upto dmlTwiceSpec)

/-- 'triggerstorelaw16.DmlTouches', WHERE WHAT IT READS IS OF BULK AT MOST 1048576: true; the input reads as it did. -/
def dmlTouchesUptoRow : OpenClaim := { program := "ytoclpkdefddfbaagreatdoor", sum := "4c98c8eebe7a672128d3f01b20f7463b3b90158ae5e5eb364801d063ede4b056", func := "triggerstore/triggerstorelaw16.DmlTouches", spec := "dmlTouches", inPlace := ["math/bits.Add64"], unfollowed := true, recurses := true, named := ["triggerstore/triggerstoreworld.words"], plainKeys := false, apart := false, laid := [("triggerstore/triggerstoreworld.words", laid_triggerstore_triggerstoreworld_words)], narrowed := true }
def DmlTouchesUptoSaid : Prop := dmlTouchesUptoRow.holds Tryz.pinned (OpenSpec.upto dmlTouchesSpec)

end Rows
end Go.Proofs.YtoclpkdefddfbaaGreatDoor
