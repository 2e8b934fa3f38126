/-
  DERIVED. GIVEN WITH THE SEED: THE PROGRAM's TIES (one call each: nine closed facts by the kernel) AND EACH ROW's TIE, after the 31st guide's Derived/Test/Toyas{Tie, Card}.lean. No idea stands in it: it is a product of the set-up. Laid BY PROGRAM, IN A SANDBOX (cutbox-door.mjs). By AI agents, Wed Nov 11 2026. No macro, syntax, notation, axiom, sorry.
-/
import Derived.Test.YtphnhpapjafghaaGreatDoorRows
import Derived.LaidByTextLater
import Derived.SevenTiedAt
import Derived.LaidSub
import Derived.LaidOnce
namespace Go.Proofs.YtphnhpapjafghaaGreatDoor
open Go
set_option maxRecDepth 100000
theorem seatTie1 : Tryz.prog.laidByTextLater [("triggerstore/triggerstoreworld.triggerNames", Rows.laid_triggerstore_triggerstoreworld_triggerNames), ("triggerstore/triggerstoreworld.words", Rows.laid_triggerstore_triggerstoreworld_words)] [.data, .data] true :=
  Program.laidByTextLater_by_one 19 8 9 (by kernel_rfl) (by kernel_rfl) (by kernel_rfl) (by kernel_rfl) (by kernel_rfl) (by kernel_rfl) (fun _ _ => by kernel_rfl)
theorem noOwnUnsafe : Tryz.pinned.checked.prog.headLifts.contains "ownunsafe" = false := by kernel_rfl
theorem tie : Tryz.prog.laidByTextLater [("triggerstore/triggerstoreworld.triggerNames", Rows.laid_triggerstore_triggerstoreworld_triggerNames), ("triggerstore/triggerstoreworld.words", Rows.laid_triggerstore_triggerstoreworld_words)] [.data, .data] true :=
  Program.laidByTextLater.sub seatTie1 ["triggerstore/triggerstoreworld.triggerNames", "triggerstore/triggerstoreworld.words"] (by kernel_rfl) (by kernel_rfl)
theorem roundsBudget_row_tie : Rows.roundsBudgetRow.laidByTextAt .later Tryz.pinned [.data, .data] true :=
  OpenClaim.laidByTextAt_later rfl rfl tie noOwnUnsafe
theorem roundsPicks_row_tie : Rows.roundsPicksRow.laidByTextAt .later Tryz.pinned [.data, .data] true :=
  OpenClaim.laidByTextAt_later rfl rfl tie noOwnUnsafe
theorem roundsQuiet_row_tie : Rows.roundsQuietRow.laidByTextAt .later Tryz.pinned [.data, .data] true :=
  OpenClaim.laidByTextAt_later rfl rfl tie noOwnUnsafe
theorem roundsBudgetUpto_row_tie : Rows.roundsBudgetUptoRow.laidByTextAt .later Tryz.pinned [.data, .data] true :=
  OpenClaim.laidByTextAt_later rfl rfl tie noOwnUnsafe
theorem roundsPicksUpto_row_tie : Rows.roundsPicksUptoRow.laidByTextAt .later Tryz.pinned [.data, .data] true :=
  OpenClaim.laidByTextAt_later rfl rfl tie noOwnUnsafe
theorem roundsQuietUpto_row_tie : Rows.roundsQuietUptoRow.laidByTextAt .later Tryz.pinned [.data, .data] true :=
  OpenClaim.laidByTextAt_later rfl rfl tie noOwnUnsafe
end Go.Proofs.YtphnhpapjafghaaGreatDoor
