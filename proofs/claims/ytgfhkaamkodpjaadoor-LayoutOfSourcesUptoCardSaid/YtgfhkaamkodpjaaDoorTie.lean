/-
  DERIVED. GIVEN WITH THE SEED: THE PROGRAM's TIES (one call each: nine closed facts by the kernel) AND EACH ROW's TIE, after the 31st guide's Derived/Test/Toyas{Tie, Card}.lean. No idea stands in it: it is a product of the set-up. Laid BY PROGRAM, IN A SANDBOX (cutbox-door.mjs). By AI agents, Wed Nov 11 2026. No macro, syntax, notation, axiom, sorry.
-/
import Derived.Test.YtgfhkaamkodpjaaDoorRows
import Derived.LaidByTextLater
import Derived.SevenTiedAt
import Derived.LaidSub
import Derived.LaidOnce
namespace Go.Proofs.YtgfhkaamkodpjaaDoor
open Go
set_option maxRecDepth 100000
theorem seatTie1 : Tryd.prog.laidByTextLater [("cspcheck/lexer.keywords", Rows.laid_cspcheck_lexer_keywords), ("cspcheck/lexer.symbols", Rows.laid_cspcheck_lexer_symbols), ("cspcheck/layout.closers", Rows.laid_cspcheck_layout_closers)] [.widerDeep, .widerDeep, .widerDeep] true :=
  Program.laidByTextLater_by_one 24 8 60 (by kernel_rfl) (by kernel_rfl) (by kernel_rfl) (by kernel_rfl) (by kernel_rfl) (by kernel_rfl) (fun _ _ => by kernel_rfl)
theorem noOwnUnsafe : Tryd.pinned.checked.prog.headLifts.contains "ownunsafe" = false := by kernel_rfl
theorem tie : Tryd.prog.laidByTextLater [("cspcheck/lexer.keywords", Rows.laid_cspcheck_lexer_keywords), ("cspcheck/lexer.symbols", Rows.laid_cspcheck_lexer_symbols), ("cspcheck/layout.closers", Rows.laid_cspcheck_layout_closers)] [.widerDeep, .widerDeep, .widerDeep] true :=
  Program.laidByTextLater.sub seatTie1 ["cspcheck/lexer.keywords", "cspcheck/lexer.symbols", "cspcheck/layout.closers"] (by kernel_rfl) (by kernel_rfl)
theorem layoutInsertsExactly_row_tie : Rows.layoutInsertsExactlyRow.laidByTextAt .later Tryd.pinned [.widerDeep, .widerDeep, .widerDeep] true :=
  OpenClaim.laidByTextAt_later rfl rfl tie noOwnUnsafe
theorem layoutOfSources_row_tie : Rows.layoutOfSourcesRow.laidByTextAt .later Tryd.pinned [.widerDeep, .widerDeep, .widerDeep] true :=
  OpenClaim.laidByTextAt_later rfl rfl tie noOwnUnsafe
theorem layoutSeparates_row_tie : Rows.layoutSeparatesRow.laidByTextAt .later Tryd.pinned [.widerDeep, .widerDeep, .widerDeep] true :=
  OpenClaim.laidByTextAt_later rfl rfl tie noOwnUnsafe
theorem layoutClosers_row_tie : Rows.layoutClosersRow.laidByTextAt .later Tryd.pinned [.widerDeep, .widerDeep, .widerDeep] true :=
  OpenClaim.laidByTextAt_later rfl rfl tie noOwnUnsafe
theorem layoutShifts_row_tie : Rows.layoutShiftsRow.laidByTextAt .later Tryd.pinned [.widerDeep, .widerDeep, .widerDeep] true :=
  OpenClaim.laidByTextAt_later rfl rfl tie noOwnUnsafe
theorem layoutNests_row_tie : Rows.layoutNestsRow.laidByTextAt .later Tryd.pinned [.widerDeep, .widerDeep, .widerDeep] true :=
  OpenClaim.laidByTextAt_later rfl rfl tie noOwnUnsafe
theorem layoutRemoves_row_tie : Rows.layoutRemovesRow.laidByTextAt .later Tryd.pinned [.widerDeep, .widerDeep, .widerDeep] true :=
  OpenClaim.laidByTextAt_later rfl rfl tie noOwnUnsafe
theorem layoutBalances_row_tie : Rows.layoutBalancesRow.laidByTextAt .later Tryd.pinned [.widerDeep, .widerDeep, .widerDeep] true :=
  OpenClaim.laidByTextAt_later rfl rfl tie noOwnUnsafe
theorem layoutInsertsExactlyUpto_row_tie : Rows.layoutInsertsExactlyUptoRow.laidByTextAt .later Tryd.pinned [.widerDeep, .widerDeep, .widerDeep] true :=
  OpenClaim.laidByTextAt_later rfl rfl tie noOwnUnsafe
theorem layoutOfSourcesUpto_row_tie : Rows.layoutOfSourcesUptoRow.laidByTextAt .later Tryd.pinned [.widerDeep, .widerDeep, .widerDeep] true :=
  OpenClaim.laidByTextAt_later rfl rfl tie noOwnUnsafe
theorem layoutSeparatesUpto_row_tie : Rows.layoutSeparatesUptoRow.laidByTextAt .later Tryd.pinned [.widerDeep, .widerDeep, .widerDeep] true :=
  OpenClaim.laidByTextAt_later rfl rfl tie noOwnUnsafe
theorem layoutClosersUpto_row_tie : Rows.layoutClosersUptoRow.laidByTextAt .later Tryd.pinned [.widerDeep, .widerDeep, .widerDeep] true :=
  OpenClaim.laidByTextAt_later rfl rfl tie noOwnUnsafe
theorem layoutShiftsUpto_row_tie : Rows.layoutShiftsUptoRow.laidByTextAt .later Tryd.pinned [.widerDeep, .widerDeep, .widerDeep] true :=
  OpenClaim.laidByTextAt_later rfl rfl tie noOwnUnsafe
theorem layoutNestsUpto_row_tie : Rows.layoutNestsUptoRow.laidByTextAt .later Tryd.pinned [.widerDeep, .widerDeep, .widerDeep] true :=
  OpenClaim.laidByTextAt_later rfl rfl tie noOwnUnsafe
theorem layoutRemovesUpto_row_tie : Rows.layoutRemovesUptoRow.laidByTextAt .later Tryd.pinned [.widerDeep, .widerDeep, .widerDeep] true :=
  OpenClaim.laidByTextAt_later rfl rfl tie noOwnUnsafe
theorem layoutBalancesUpto_row_tie : Rows.layoutBalancesUptoRow.laidByTextAt .later Tryd.pinned [.widerDeep, .widerDeep, .widerDeep] true :=
  OpenClaim.laidByTextAt_later rfl rfl tie noOwnUnsafe
end Go.Proofs.YtgfhkaamkodpjaaDoor
