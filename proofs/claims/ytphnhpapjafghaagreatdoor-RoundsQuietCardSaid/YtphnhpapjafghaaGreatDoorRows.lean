/-
  NARROWER THAN 'FOR EVERY INPUT', by the rows' own cells (each row's printed sentence says how): RoundsBudget: laid · RoundsPicks: laid · RoundsQuiet: laid.
  DERIVED. THE GIVEN ROWS OF THIS SEAT. 3 by the template 'for every input the law returns true; each argument reads behind the call as it read before'; 0 by the template 'total and deterministic' (their statements: YtphnhpapjafghaaGreatDoorTotals.lean).
  GIVEN WITH THE SEED: the statements are not yours to turn. If you find one false, say at which input.
  Laid BY PROGRAM, IN A SANDBOX (cutbox-rows.mjs): the forced cells as the released guide's own fill.sh prints them over the translation c55263bb6e26bd8c… (all of the seat's roots in one cut). By AI agents, Wed Nov 11 2026. No macro, syntax, notation, axiom, sorry.
-/
import Derived.Test.YtphnhpapjafghaaGreatDoorChecked
import GoSem.Claim
import GoSem.ClaimJoined
import GoSem.ClaimMapViews
import Derived.JoinedTies
import Derived.KernelRfl
namespace Go.Proofs.YtphnhpapjafghaaGreatDoor
/- THE CELL 'sum', in the pinned program and in every row, IS THE sha256 OF THE DUMP (.gsa) THAT YtphnhpapjafghaaGreatDoorProg.lean LOADS. Nothing in Lean hashes anything: it is a label: what it is worth is what the hold of that sum in a sandbox is worth. -/
noncomputable def Tryz.pinned : Pinned := { name := "ytphnhpapjafghaagreatdoor", sum := "c55263bb6e26bd8cc47e55c1403f06ae34d4bfdd4b2d071d3192d9aff0550b9c", checked := Tryz.checked }
namespace Rows
def none {H : Type} : Left H := { results := [], args := [] }

/- WHAT THE LISTED PACKAGE-LEVEL VARIABLES READ AS WHEN THE CALL BEGINS. Each datum BY PROGRAM (the guide's laid-datum.mjs) off the statement by which the dump's own 'gosem.cut.vars' lays the variable. In a bare row this is a premise. The card (YtphnhpapjafghaaGreatDoorCards.lean) ties it to the program's text. -/
def laid_triggerstore_triggerstoreworld_triggerNames {H : Type} : DataW H := .agg [.lit (.string [97, 97]), .lit (.string [98, 98]), .lit (.string [99, 99]), .lit (.string [100, 100]), .lit (.string [101, 101]), .lit (.string [102, 102]), .lit (.string [103, 103]), .lit (.string [104, 104])]
def laid_triggerstore_triggerstoreworld_words {H : Type} : DataW H := .agg [.lit (.string []), .lit (.string [97]), .lit (.string [98]), .lit (.string [105, 116, 39, 115]), .lit (.string [90, 32, 122]), .lit (.string [126])]

/-- 'triggerstorelaw24.RoundsBudget': WHATEVER THE INPUT: true; the input reads as it did. -/
def roundsBudgetSpec : ChangeSpec := { name := "roundsBudget", fn := fun _ => fun
  | [d1, d2, d3] => { results := [.lit (.bool true)], args := [d1, d2, d3] }
  | _ => none }
def roundsBudgetRow : OpenClaim := { program := "ytphnhpapjafghaagreatdoor", sum := "c55263bb6e26bd8cc47e55c1403f06ae34d4bfdd4b2d071d3192d9aff0550b9c", func := "triggerstore/triggerstorelaw24.RoundsBudget", spec := "roundsBudget", inPlace := ["internal/bytealg.abigen_runtime_cmpstring", "math/bits.Add64"], unfollowed := true, recurses := true, named := ["triggerstore/triggerstoreworld.triggerNames", "triggerstore/triggerstoreworld.words"], plainKeys := false, apart := false, laid := [("triggerstore/triggerstoreworld.triggerNames", laid_triggerstore_triggerstoreworld_triggerNames), ("triggerstore/triggerstoreworld.words", laid_triggerstore_triggerstoreworld_words)] }
def RoundsBudgetSaid : Prop := roundsBudgetRow.holds Tryz.pinned (OpenSpec.ofChange roundsBudgetSpec)

/-- ITS FALSE NEIGHBOUR: 'it returns false'. Refute it at one input. -/
def roundsBudgetWrong : ChangeSpec := { name := "roundsBudget", fn := fun _ => fun
  | [d1, d2, d3] => { results := [.lit (.bool false)], args := [d1, d2, d3] }
  | _ => none }
def RoundsBudgetWrongFalsely : Prop := roundsBudgetRow.holds Tryz.pinned (OpenSpec.ofChange roundsBudgetWrong)

/-- 'triggerstorelaw24.RoundsPicks': WHATEVER THE INPUT: true; the input reads as it did. -/
def roundsPicksSpec : ChangeSpec := { name := "roundsPicks", fn := fun _ => fun
  | [d1, d2] => { results := [.lit (.bool true)], args := [d1, d2] }
  | _ => none }
def roundsPicksRow : OpenClaim := { program := "ytphnhpapjafghaagreatdoor", sum := "c55263bb6e26bd8cc47e55c1403f06ae34d4bfdd4b2d071d3192d9aff0550b9c", func := "triggerstore/triggerstorelaw24.RoundsPicks", spec := "roundsPicks", inPlace := ["internal/bytealg.abigen_runtime_cmpstring", "math/bits.Add64"], unfollowed := true, recurses := true, named := ["triggerstore/triggerstoreworld.triggerNames", "triggerstore/triggerstoreworld.words"], plainKeys := false, apart := false, laid := [("triggerstore/triggerstoreworld.triggerNames", laid_triggerstore_triggerstoreworld_triggerNames), ("triggerstore/triggerstoreworld.words", laid_triggerstore_triggerstoreworld_words)] }
def RoundsPicksSaid : Prop := roundsPicksRow.holds Tryz.pinned (OpenSpec.ofChange roundsPicksSpec)

/-- ITS FALSE NEIGHBOUR: 'it returns false'. Refute it at one input. -/
def roundsPicksWrong : ChangeSpec := { name := "roundsPicks", fn := fun _ => fun
  | [d1, d2] => { results := [.lit (.bool false)], args := [d1, d2] }
  | _ => none }
def RoundsPicksWrongFalsely : Prop := roundsPicksRow.holds Tryz.pinned (OpenSpec.ofChange roundsPicksWrong)

/-- 'triggerstorelaw24.RoundsQuiet': WHATEVER THE INPUT: true; the input reads as it did. -/
def roundsQuietSpec : ChangeSpec := { name := "roundsQuiet", fn := fun _ => fun
  | [d] => { results := [.lit (.bool true)], args := [d] }
  | _ => none }
def roundsQuietRow : OpenClaim := { program := "ytphnhpapjafghaagreatdoor", sum := "c55263bb6e26bd8cc47e55c1403f06ae34d4bfdd4b2d071d3192d9aff0550b9c", func := "triggerstore/triggerstorelaw24.RoundsQuiet", spec := "roundsQuiet", inPlace := ["internal/bytealg.abigen_runtime_cmpstring", "math/bits.Add64"], unfollowed := true, recurses := true, named := ["triggerstore/triggerstoreworld.triggerNames", "triggerstore/triggerstoreworld.words"], plainKeys := false, apart := false, laid := [("triggerstore/triggerstoreworld.triggerNames", laid_triggerstore_triggerstoreworld_triggerNames), ("triggerstore/triggerstoreworld.words", laid_triggerstore_triggerstoreworld_words)] }
def RoundsQuietSaid : Prop := roundsQuietRow.holds Tryz.pinned (OpenSpec.ofChange roundsQuietSpec)

/-- ITS FALSE NEIGHBOUR: 'it returns false'. Refute it at one input. -/
def roundsQuietWrong : ChangeSpec := { name := "roundsQuiet", fn := fun _ => fun
  | [d] => { results := [.lit (.bool false)], args := [d] }
  | _ => none }
def RoundsQuietWrongFalsely : Prop := roundsQuietRow.holds Tryz.pinned (OpenSpec.ofChange roundsQuietWrong)

/- THE SECOND FORM. 'bulk': how many values and letters a reading holds, each counted each time it is reached (what is shared counts as often as it is met; a slice's spare places count too). A statement '..UptoSaid' is the law's where the arguments, and the package variables that the reading takes, are together of bulk at most 1048576: NARROWER than '..Said'. Prove '..Said' where nothing that the law and all that it calls make is longer than what came in: it says more and counts as full. Else prove '..UptoSaid'. A law counts once. -/
mutual
def uptoBulk {H : Type} : DataW H → Nat
  | .lit (.string bytes) => bytes.length + 1
  | .lit _ => 1
  | .nil => 1
  | .ptr d => uptoBulk d + 1
  | .slice elems spare => uptoBulkAll elems + uptoBulkAll spare + 1
  | .agg parts => uptoBulkAll parts + 1
  | .iface _ d => uptoBulk d + 1
  | .map entries => uptoBulkEntries entries + 1
  | .held _ => 1
def uptoBulkAll {H : Type} : List (DataW H) → Nat
  | [] => 0
  | d :: r => uptoBulk d + uptoBulkAll r
def uptoBulkEntries {H : Type} : List (Lit × DataW H) → Nat
  | [] => 0
  | x :: r => uptoBulkEntry x + uptoBulkEntries r
def uptoBulkEntry {H : Type} : Lit × DataW H → Nat
  | (.string bytes, d) => bytes.length + uptoBulk d + 1
  | (_, d) => uptoBulk d + 1
 end
def uptoSmall : (H : Type) → List (DataW H) → Bool := fun _ ds => decide (uptoBulkAll ds ≤ 1048576)
def OpenSpec.upto (s : _root_.Go.ChangeSpec) : _root_.Go.OpenSpec := { _root_.Go.OpenSpec.ofChange s with cond := some uptoSmall }

/-- 'triggerstorelaw24.RoundsBudget', WHERE WHAT IT READS IS OF BULK AT MOST 1048576: true; the input reads as it did. -/
def roundsBudgetUptoRow : OpenClaim := { program := "ytphnhpapjafghaagreatdoor", sum := "c55263bb6e26bd8cc47e55c1403f06ae34d4bfdd4b2d071d3192d9aff0550b9c", func := "triggerstore/triggerstorelaw24.RoundsBudget", spec := "roundsBudget", inPlace := ["internal/bytealg.abigen_runtime_cmpstring", "math/bits.Add64"], unfollowed := true, recurses := true, named := ["triggerstore/triggerstoreworld.triggerNames", "triggerstore/triggerstoreworld.words"], plainKeys := false, apart := false, laid := [("triggerstore/triggerstoreworld.triggerNames", laid_triggerstore_triggerstoreworld_triggerNames), ("triggerstore/triggerstoreworld.words", laid_triggerstore_triggerstoreworld_words)], narrowed := true }
def RoundsBudgetUptoSaid : Prop := roundsBudgetUptoRow.holds Tryz.pinned (OpenSpec.upto roundsBudgetSpec)

/-- 'triggerstorelaw24.RoundsPicks', WHERE WHAT IT READS IS OF BULK AT MOST 1048576: true; the input reads as it did. -/
def roundsPicksUptoRow : OpenClaim := { program := "ytphnhpapjafghaagreatdoor", sum := "c55263bb6e26bd8cc47e55c1403f06ae34d4bfdd4b2d071d3192d9aff0550b9c", func := "triggerstore/triggerstorelaw24.RoundsPicks", spec := "roundsPicks", inPlace := ["internal/bytealg.abigen_runtime_cmpstring", "math/bits.Add64"], unfollowed := true, recurses := true, named := ["triggerstore/triggerstoreworld.triggerNames", "triggerstore/triggerstoreworld.words"], plainKeys := false, apart := false, laid := [("triggerstore/triggerstoreworld.triggerNames", laid_triggerstore_triggerstoreworld_triggerNames), ("triggerstore/triggerstoreworld.words", laid_triggerstore_triggerstoreworld_words)], narrowed := true }
def RoundsPicksUptoSaid : Prop := roundsPicksUptoRow.holds Tryz.pinned (OpenSpec.upto roundsPicksSpec)

/-- 'triggerstorelaw24.RoundsQuiet', WHERE WHAT IT READS IS OF BULK AT MOST 1048576: true; the input reads as it did. -/
def roundsQuietUptoRow : OpenClaim := { program := "ytphnhpapjafghaagreatdoor", sum := "c55263bb6e26bd8cc47e55c1403f06ae34d4bfdd4b2d071d3192d9aff0550b9c", func := "triggerstore/triggerstorelaw24.RoundsQuiet", spec := "roundsQuiet", inPlace := ["internal/bytealg.abigen_runtime_cmpstring", "math/bits.Add64"], unfollowed := true, recurses := true, named := ["triggerstore/triggerstoreworld.triggerNames", "triggerstore/triggerstoreworld.words"], plainKeys := false, apart := false, laid := [("triggerstore/triggerstoreworld.triggerNames", laid_triggerstore_triggerstoreworld_triggerNames), ("triggerstore/triggerstoreworld.words", laid_triggerstore_triggerstoreworld_words)], narrowed := true }
def RoundsQuietUptoSaid : Prop := roundsQuietUptoRow.holds Tryz.pinned (OpenSpec.upto roundsQuietSpec)

end Rows
end Go.Proofs.YtphnhpapjafghaaGreatDoor
