/-
  NARROWER THAN 'FOR EVERY INPUT', by the rows' own cells (each row's printed sentence says how): BeforeCommutes: laid · BeforeSets: laid · BeforeApplies: loops, laid.
  DERIVED. THE GIVEN ROWS OF THIS SEAT. 3 by the template 'for every input the law returns true; each argument reads behind the call as it read before'; 0 by the template 'total and deterministic' (their statements: YtenlehhclknogaaGreatDoorTotals.lean).
  GIVEN WITH THE SEED: the statements are not yours to turn. If you find one false, say at which input.
  Laid BY PROGRAM, IN A SANDBOX (cutbox-rows.mjs): the forced cells as the released guide's own fill.sh prints them over the translation c7d9f27c1ec9645f… (all of the seat's roots in one cut). By AI agents, Wed Nov 11 2026. No macro, syntax, notation, axiom, sorry.
-/
import Derived.Test.YtenlehhclknogaaGreatDoorChecked
import GoSem.Claim
import GoSem.ClaimJoined
import GoSem.ClaimMapViews
import Derived.JoinedTies
import Derived.KernelRfl
namespace Go.Proofs.YtenlehhclknogaaGreatDoor
/- THE CELL 'sum', in the pinned program and in every row, IS THE sha256 OF THE DUMP (.gsa) THAT YtenlehhclknogaaGreatDoorProg.lean LOADS. Nothing in Lean hashes anything: it is a label: what it is worth is what the hold of that sum in a sandbox is worth. -/
noncomputable def Tryz.pinned : Pinned := { name := "ytenlehhclknogaagreatdoor", sum := "c7d9f27c1ec9645f56c4b27c166eaee74ce163f785c2e247ee0178b7791b5883", checked := Tryz.checked }
namespace Rows
def none {H : Type} : Left H := { results := [], args := [] }

/- WHAT THE LISTED PACKAGE-LEVEL VARIABLES READ AS WHEN THE CALL BEGINS. Each datum BY PROGRAM (the guide's laid-datum.mjs) off the statement by which the dump's own 'gosem.cut.vars' lays the variable. In a bare row this is a premise. The card (YtenlehhclknogaaGreatDoorCards.lean) ties it to the program's text. -/
def laid_triggerstore_triggerstoreworld_triggerNames {H : Type} : DataW H := .agg [.lit (.string [97, 97]), .lit (.string [98, 98]), .lit (.string [99, 99]), .lit (.string [100, 100]), .lit (.string [101, 101]), .lit (.string [102, 102]), .lit (.string [103, 103]), .lit (.string [104, 104])]
def laid_triggerstore_triggerstoreworld_words {H : Type} : DataW H := .agg [.lit (.string []), .lit (.string [97]), .lit (.string [98]), .lit (.string [105, 116, 39, 115]), .lit (.string [90, 32, 122]), .lit (.string [126])]
def laid_triggerstore_triggerstoreworld_names {H : Type} : DataW H := .agg [.lit (.string [105, 100]), .lit (.string [110]), .lit (.string [109]), .lit (.string [98]), .lit (.string [115]), .lit (.string [120]), .lit (.string [97, 49, 95]), .lit (.string [97, 98, 99, 100, 101, 102, 103, 104, 105, 106, 107, 108])]

/-- 'triggerstorelaw20.BeforeCommutes': WHATEVER THE INPUT: true; the input reads as it did. -/
def beforeCommutesSpec : ChangeSpec := { name := "beforeCommutes", fn := fun _ => fun
  | [d1, d2, d3] => { results := [.lit (.bool true)], args := [d1, d2, d3] }
  | _ => none }
def beforeCommutesRow : OpenClaim := { program := "ytenlehhclknogaagreatdoor", sum := "c7d9f27c1ec9645f56c4b27c166eaee74ce163f785c2e247ee0178b7791b5883", func := "triggerstore/triggerstorelaw20.BeforeCommutes", spec := "beforeCommutes", inPlace := ["math/bits.Add64"], unfollowed := true, recurses := true, named := ["triggerstore/triggerstoreworld.triggerNames", "triggerstore/triggerstoreworld.words"], apart := false, laid := [("triggerstore/triggerstoreworld.triggerNames", laid_triggerstore_triggerstoreworld_triggerNames), ("triggerstore/triggerstoreworld.words", laid_triggerstore_triggerstoreworld_words)] }
def BeforeCommutesSaid : Prop := beforeCommutesRow.holds Tryz.pinned (OpenSpec.ofChange beforeCommutesSpec)

/-- ITS FALSE NEIGHBOUR: 'it returns false'. Refute it at one input. -/
def beforeCommutesWrong : ChangeSpec := { name := "beforeCommutes", fn := fun _ => fun
  | [d1, d2, d3] => { results := [.lit (.bool false)], args := [d1, d2, d3] }
  | _ => none }
def BeforeCommutesWrongFalsely : Prop := beforeCommutesRow.holds Tryz.pinned (OpenSpec.ofChange beforeCommutesWrong)

/-- 'triggerstorelaw20.BeforeSets': WHATEVER THE INPUT: true; the input reads as it did. -/
def beforeSetsSpec : ChangeSpec := { name := "beforeSets", fn := fun _ => fun
  | [d1, d2] => { results := [.lit (.bool true)], args := [d1, d2] }
  | _ => none }
def beforeSetsRow : OpenClaim := { program := "ytenlehhclknogaagreatdoor", sum := "c7d9f27c1ec9645f56c4b27c166eaee74ce163f785c2e247ee0178b7791b5883", func := "triggerstore/triggerstorelaw20.BeforeSets", spec := "beforeSets", inPlace := ["math/bits.Add64"], unfollowed := true, recurses := true, named := ["triggerstore/triggerstoreworld.triggerNames", "triggerstore/triggerstoreworld.words"], apart := false, laid := [("triggerstore/triggerstoreworld.triggerNames", laid_triggerstore_triggerstoreworld_triggerNames), ("triggerstore/triggerstoreworld.words", laid_triggerstore_triggerstoreworld_words)] }
def BeforeSetsSaid : Prop := beforeSetsRow.holds Tryz.pinned (OpenSpec.ofChange beforeSetsSpec)

/-- ITS FALSE NEIGHBOUR: 'it returns false'. Refute it at one input. -/
def beforeSetsWrong : ChangeSpec := { name := "beforeSets", fn := fun _ => fun
  | [d1, d2] => { results := [.lit (.bool false)], args := [d1, d2] }
  | _ => none }
def BeforeSetsWrongFalsely : Prop := beforeSetsRow.holds Tryz.pinned (OpenSpec.ofChange beforeSetsWrong)

/-- 'triggerstorelaw20.BeforeApplies': WHATEVER THE INPUT: true; the input reads as it did. -/
def beforeAppliesSpec : ChangeSpec := { name := "beforeApplies", fn := fun _ => fun
  | [d1, d2, d3, d4, d5, d6] => { results := [.lit (.bool true)], args := [d1, d2, d3, d4, d5, d6] }
  | _ => none }
def beforeAppliesRow : OpenClaim := { program := "ytenlehhclknogaagreatdoor", sum := "c7d9f27c1ec9645f56c4b27c166eaee74ce163f785c2e247ee0178b7791b5883", func := "triggerstore/triggerstorelaw20.BeforeApplies", spec := "beforeApplies", inPlace := ["math/bits.Add64"], unfollowed := true, recurses := true, named := ["triggerstore/triggerstoreworld.triggerNames", "triggerstore/triggerstoreworld.words", "triggerstore/triggerstoreworld.names"], loops := true, apart := false, laid := [("triggerstore/triggerstoreworld.triggerNames", laid_triggerstore_triggerstoreworld_triggerNames), ("triggerstore/triggerstoreworld.words", laid_triggerstore_triggerstoreworld_words), ("triggerstore/triggerstoreworld.names", laid_triggerstore_triggerstoreworld_names)] }
def BeforeAppliesSaid : Prop := beforeAppliesRow.holds Tryz.pinned (OpenSpec.ofChange beforeAppliesSpec)

/-- ITS FALSE NEIGHBOUR: 'it returns false'. Refute it at one input. -/
def beforeAppliesWrong : ChangeSpec := { name := "beforeApplies", fn := fun _ => fun
  | [d1, d2, d3, d4, d5, d6] => { results := [.lit (.bool false)], args := [d1, d2, d3, d4, d5, d6] }
  | _ => none }
def BeforeAppliesWrongFalsely : Prop := beforeAppliesRow.holds Tryz.pinned (OpenSpec.ofChange beforeAppliesWrong)

/- THE SECOND FORM. 'bulk': how many values and letters a reading holds, each counted each time it is reached (what is shared counts as often as it is met; a slice's spare places count too). A statement '..UptoSaid' is the law's where the arguments, and the package variables that the reading takes, are together of bulk at most 1048576: NARROWER than '..Said'. Prove '..Said' where nothing that the law and all that it calls make is longer than what came in: it says more and counts as full. Else prove '..UptoSaid'. A law counts once. -/
mutual
def uptoBulk {H : Type} : DataW H → Nat
  | .lit (.string bytes) => bytes.length + 1
  | .lit _ => 1
  | .nil => 1
  | .ptr d => uptoBulk d + 1
  | .slice elems spare => uptoBulkAll elems + uptoBulkAll spare + 1
  | .agg parts => uptoBulkAll parts + 1
  | .iface _ d => uptoBulk d + 1
  | .map entries => uptoBulkEntries entries + 1
  | .held _ => 1
def uptoBulkAll {H : Type} : List (DataW H) → Nat
  | [] => 0
  | d :: r => uptoBulk d + uptoBulkAll r
def uptoBulkEntries {H : Type} : List (Lit × DataW H) → Nat
  | [] => 0
  | x :: r => uptoBulkEntry x + uptoBulkEntries r
def uptoBulkEntry {H : Type} : Lit × DataW H → Nat
  | (.string bytes, d) => bytes.length + uptoBulk d + 1
  | (_, d) => uptoBulk d + 1
 end
def uptoSmall : (H : Type) → List (DataW H) → Bool := fun _ ds => decide (uptoBulkAll ds ≤ 1048576)
def OpenSpec.upto (s : _root_.Go.ChangeSpec) : _root_.Go.OpenSpec := { _root_.Go.OpenSpec.ofChange s with cond := some uptoSmall }

/-- 'triggerstorelaw20.BeforeCommutes', WHERE WHAT IT READS IS OF BULK AT MOST 1048576: true; the input reads as it did. -/
def beforeCommutesUptoRow : OpenClaim := { program := "ytenlehhclknogaagreatdoor", sum := "c7d9f27c1ec9645f56c4b27c166eaee74ce163f785c2e247ee0178b7791b5883", func := "triggerstore/triggerstorelaw20.BeforeCommutes", spec := "beforeCommutes", inPlace := ["math/bits.Add64"], unfollowed := true, recurses := true, named := ["triggerstore/triggerstoreworld.triggerNames", "triggerstore/triggerstoreworld.words"], apart := false, laid := [("triggerstore/triggerstoreworld.triggerNames", laid_triggerstore_triggerstoreworld_triggerNames), ("triggerstore/triggerstoreworld.words", laid_triggerstore_triggerstoreworld_words)], narrowed := true }
def BeforeCommutesUptoSaid : Prop := beforeCommutesUptoRow.holds Tryz.pinned (OpenSpec.upto beforeCommutesSpec)

/-- 'triggerstorelaw20.BeforeSets', WHERE WHAT IT READS IS OF BULK AT MOST 1048576: true; the input reads as it did. -/
def beforeSetsUptoRow : OpenClaim := { program := "ytenlehhclknogaagreatdoor", sum := "c7d9f27c1ec9645f56c4b27c166eaee74ce163f785c2e247ee0178b7791b5883", func := "triggerstore/triggerstorelaw20.BeforeSets", spec := "beforeSets", inPlace := ["math/bits.Add64"], unfollowed := true, recurses := true, named := ["triggerstore/triggerstoreworld.triggerNames", "triggerstore/triggerstoreworld.words"], apart := false, laid := [("triggerstore/triggerstoreworld.triggerNames", laid_triggerstore_triggerstoreworld_triggerNames), ("triggerstore/triggerstoreworld.words", laid_triggerstore_triggerstoreworld_words)], narrowed := true }
def BeforeSetsUptoSaid : Prop := beforeSetsUptoRow.holds Tryz.pinned (OpenSpec.upto beforeSetsSpec)

/-- 'triggerstorelaw20.BeforeApplies', WHERE WHAT IT READS IS OF BULK AT MOST 1048576: true; the input reads as it did. -/
def beforeAppliesUptoRow : OpenClaim := { program := "ytenlehhclknogaagreatdoor", sum := "c7d9f27c1ec9645f56c4b27c166eaee74ce163f785c2e247ee0178b7791b5883", func := "triggerstore/triggerstorelaw20.BeforeApplies", spec := "beforeApplies", inPlace := ["math/bits.Add64"], unfollowed := true, recurses := true, named := ["triggerstore/triggerstoreworld.triggerNames", "triggerstore/triggerstoreworld.words", "triggerstore/triggerstoreworld.names"], loops := true, apart := false, laid := [("triggerstore/triggerstoreworld.triggerNames", laid_triggerstore_triggerstoreworld_triggerNames), ("triggerstore/triggerstoreworld.words", laid_triggerstore_triggerstoreworld_words), ("triggerstore/triggerstoreworld.names", laid_triggerstore_triggerstoreworld_names)], narrowed := true }
def BeforeAppliesUptoSaid : Prop := beforeAppliesUptoRow.holds Tryz.pinned (OpenSpec.upto beforeAppliesSpec)

end Rows
end Go.Proofs.YtenlehhclknogaaGreatDoor
