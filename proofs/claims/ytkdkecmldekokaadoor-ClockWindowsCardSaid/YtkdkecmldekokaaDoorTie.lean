/-
  DERIVED. GIVEN WITH THE SEED: THE PROGRAM's TIES (one call each: nine closed facts by the kernel) AND EACH ROW's TIE, after the 31st guide's Derived/Test/Toyas{Tie, Card}.lean. No idea stands in it: it is a product of the set-up. Laid BY PROGRAM, IN A SANDBOX (cutbox-door.mjs). By AI agents, Wed Nov 11 2026. No macro, syntax, notation, axiom, sorry.
-/
import Derived.Test.YtkdkecmldekokaaDoorRows
import Derived.LaidByTextLater
import Derived.SevenTiedAt
import Derived.LaidSub
import Derived.LaidOnce
namespace Go.Proofs.YtkdkecmldekokaaDoor
open Go
set_option maxRecDepth 100000
theorem seatTie1 : Tryd.prog.laidByTextLater [("bailee/api.ErrRange", Rows.laid_bailee_api_ErrRange), ("bailee/api.ErrSize", Rows.laid_bailee_api_ErrSize), ("bailee/api.ErrBudget", Rows.laid_bailee_api_ErrBudget), ("bailee/clock.words", Rows.laid_bailee_clock_words)] [.sentinel, .sentinel, .sentinel, .data] true :=
  Program.laidByTextLater_by_one 71 8 5 (by kernel_rfl) (by kernel_rfl) (by kernel_rfl) (by kernel_rfl) (by kernel_rfl) (by kernel_rfl) (fun _ _ => by kernel_rfl)
theorem noOwnUnsafe : Tryd.pinned.checked.prog.headLifts.contains "ownunsafe" = false := by kernel_rfl
theorem tie : Tryd.prog.laidByTextLater [("bailee/api.ErrRange", Rows.laid_bailee_api_ErrRange), ("bailee/api.ErrSize", Rows.laid_bailee_api_ErrSize), ("bailee/api.ErrBudget", Rows.laid_bailee_api_ErrBudget), ("bailee/clock.words", Rows.laid_bailee_clock_words)] [.sentinel, .sentinel, .sentinel, .data] true :=
  Program.laidByTextLater.sub seatTie1 ["bailee/api.ErrRange", "bailee/api.ErrSize", "bailee/api.ErrBudget", "bailee/clock.words"] (by kernel_rfl) (by kernel_rfl)
theorem clockWords_row_tie : Rows.clockWordsRow.laidByTextAt .later Tryd.pinned [.sentinel, .sentinel, .sentinel, .data] true :=
  OpenClaim.laidByTextAt_later rfl rfl tie noOwnUnsafe
theorem clockWindows_row_tie : Rows.clockWindowsRow.laidByTextAt .later Tryd.pinned [.sentinel, .sentinel, .sentinel, .data] true :=
  OpenClaim.laidByTextAt_later rfl rfl tie noOwnUnsafe
theorem clockWordsUpto_row_tie : Rows.clockWordsUptoRow.laidByTextAt .later Tryd.pinned [.sentinel, .sentinel, .sentinel, .data] true :=
  OpenClaim.laidByTextAt_later rfl rfl tie noOwnUnsafe
theorem clockWindowsUpto_row_tie : Rows.clockWindowsUptoRow.laidByTextAt .later Tryd.pinned [.sentinel, .sentinel, .sentinel, .data] true :=
  OpenClaim.laidByTextAt_later rfl rfl tie noOwnUnsafe
end Go.Proofs.YtkdkecmldekokaaDoor
