/-
  DERIVED. GIVEN WITH THE SEED: THE PROGRAM's TIES (one call each: nine closed facts by the kernel) AND EACH ROW's TIE, after the 31st guide's Derived/Test/Toyas{Tie, Card}.lean. No idea stands in it: it is a product of the set-up. Laid BY PROGRAM, IN A SANDBOX (cutbox-door.mjs). By AI agents, Wed Nov 11 2026. No macro, syntax, notation, axiom, sorry.
-/
import Derived.Test.YtnbbeghaeijcbaaDoorRows
import Derived.LaidByTextLater
import Derived.SevenTiedAt
import Derived.LaidSub
import Derived.LaidOnce
namespace Go.Proofs.YtnbbeghaeijcbaaDoor
open Go
set_option maxRecDepth 100000
theorem seatTie1 : Tryd.prog.laidByTextLater [("timbre/api.ErrShort", Rows.laid_timbre_api_ErrShort), ("timbre/api.ErrVarint", Rows.laid_timbre_api_ErrVarint), ("timbre/api.ErrLimit", Rows.laid_timbre_api_ErrLimit), ("timbre/api.ErrTail", Rows.laid_timbre_api_ErrTail), ("timbre/api.ErrRange", Rows.laid_timbre_api_ErrRange), ("timbre/api.ErrText", Rows.laid_timbre_api_ErrText), ("timbre/api.ErrLength", Rows.laid_timbre_api_ErrLength), ("timbre/api.ErrOrder", Rows.laid_timbre_api_ErrOrder), ("timbre/api.ErrProgram", Rows.laid_timbre_api_ErrProgram), ("timbre/api.ErrState", Rows.laid_timbre_api_ErrState), ("timbre/api.ErrRoot", Rows.laid_timbre_api_ErrRoot), ("timbre/api.ErrPerm", Rows.laid_timbre_api_ErrPerm), ("timbre/api.ErrNumber", Rows.laid_timbre_api_ErrNumber), ("timbre/api.ErrWorkers", Rows.laid_timbre_api_ErrWorkers), ("timbre/api.ErrDone", Rows.laid_timbre_api_ErrDone), ("timbre/api.ErrUnknown", Rows.laid_timbre_api_ErrUnknown), ("timbre/api.ErrMode", Rows.laid_timbre_api_ErrMode), ("timbre/api.ErrCommand", Rows.laid_timbre_api_ErrCommand), ("timbre/api.ErrExact", Rows.laid_timbre_api_ErrExact), ("timbre/steps.table", Rows.laid_timbre_steps_table)] [.sentinel, .sentinel, .sentinel, .sentinel, .sentinel, .sentinel, .sentinel, .sentinel, .sentinel, .sentinel, .sentinel, .sentinel, .sentinel, .sentinel, .sentinel, .sentinel, .sentinel, .sentinel, .sentinel, .data] true :=
  Program.laidByTextLater_by_one 387 8 61 (by kernel_rfl) (by kernel_rfl) (by kernel_rfl) (by kernel_rfl) (by kernel_rfl) (by kernel_rfl) (fun _ _ => by kernel_rfl)
theorem noOwnUnsafe : Tryd.pinned.checked.prog.headLifts.contains "ownunsafe" = false := by kernel_rfl
theorem tie : Tryd.prog.laidByTextLater [("timbre/api.ErrShort", Rows.laid_timbre_api_ErrShort), ("timbre/api.ErrVarint", Rows.laid_timbre_api_ErrVarint), ("timbre/api.ErrLimit", Rows.laid_timbre_api_ErrLimit), ("timbre/api.ErrTail", Rows.laid_timbre_api_ErrTail), ("timbre/api.ErrRange", Rows.laid_timbre_api_ErrRange), ("timbre/api.ErrText", Rows.laid_timbre_api_ErrText), ("timbre/api.ErrLength", Rows.laid_timbre_api_ErrLength), ("timbre/api.ErrOrder", Rows.laid_timbre_api_ErrOrder), ("timbre/api.ErrProgram", Rows.laid_timbre_api_ErrProgram), ("timbre/api.ErrState", Rows.laid_timbre_api_ErrState), ("timbre/api.ErrRoot", Rows.laid_timbre_api_ErrRoot), ("timbre/api.ErrPerm", Rows.laid_timbre_api_ErrPerm), ("timbre/api.ErrNumber", Rows.laid_timbre_api_ErrNumber), ("timbre/api.ErrWorkers", Rows.laid_timbre_api_ErrWorkers), ("timbre/api.ErrDone", Rows.laid_timbre_api_ErrDone), ("timbre/api.ErrUnknown", Rows.laid_timbre_api_ErrUnknown), ("timbre/api.ErrMode", Rows.laid_timbre_api_ErrMode), ("timbre/api.ErrCommand", Rows.laid_timbre_api_ErrCommand), ("timbre/api.ErrExact", Rows.laid_timbre_api_ErrExact), ("timbre/steps.table", Rows.laid_timbre_steps_table)] [.sentinel, .sentinel, .sentinel, .sentinel, .sentinel, .sentinel, .sentinel, .sentinel, .sentinel, .sentinel, .sentinel, .sentinel, .sentinel, .sentinel, .sentinel, .sentinel, .sentinel, .sentinel, .sentinel, .data] true :=
  Program.laidByTextLater.sub seatTie1 ["timbre/api.ErrShort", "timbre/api.ErrVarint", "timbre/api.ErrLimit", "timbre/api.ErrTail", "timbre/api.ErrRange", "timbre/api.ErrText", "timbre/api.ErrLength", "timbre/api.ErrOrder", "timbre/api.ErrProgram", "timbre/api.ErrState", "timbre/api.ErrRoot", "timbre/api.ErrPerm", "timbre/api.ErrNumber", "timbre/api.ErrWorkers", "timbre/api.ErrDone", "timbre/api.ErrUnknown", "timbre/api.ErrMode", "timbre/api.ErrCommand", "timbre/api.ErrExact", "timbre/steps.table"] (by kernel_rfl) (by kernel_rfl)
theorem stepsForms_row_tie : Rows.stepsFormsRow.laidByTextAt .later Tryd.pinned [.sentinel, .sentinel, .sentinel, .sentinel, .sentinel, .sentinel, .sentinel, .sentinel, .sentinel, .sentinel, .sentinel, .sentinel, .sentinel, .sentinel, .sentinel, .sentinel, .sentinel, .sentinel, .sentinel, .data] true :=
  OpenClaim.laidByTextAt_later rfl rfl tie noOwnUnsafe
theorem stepsEncodes_row_tie : Rows.stepsEncodesRow.laidByTextAt .later Tryd.pinned [.sentinel, .sentinel, .sentinel, .sentinel, .sentinel, .sentinel, .sentinel, .sentinel, .sentinel, .sentinel, .sentinel, .sentinel, .sentinel, .sentinel, .sentinel, .sentinel, .sentinel, .sentinel, .sentinel, .data] true :=
  OpenClaim.laidByTextAt_later rfl rfl tie noOwnUnsafe
theorem stepsDecodes_row_tie : Rows.stepsDecodesRow.laidByTextAt .later Tryd.pinned [.sentinel, .sentinel, .sentinel, .sentinel, .sentinel, .sentinel, .sentinel, .sentinel, .sentinel, .sentinel, .sentinel, .sentinel, .sentinel, .sentinel, .sentinel, .sentinel, .sentinel, .sentinel, .sentinel, .data] true :=
  OpenClaim.laidByTextAt_later rfl rfl tie noOwnUnsafe
theorem stepsBack_row_tie : Rows.stepsBackRow.laidByTextAt .later Tryd.pinned [.sentinel, .sentinel, .sentinel, .sentinel, .sentinel, .sentinel, .sentinel, .sentinel, .sentinel, .sentinel, .sentinel, .sentinel, .sentinel, .sentinel, .sentinel, .sentinel, .sentinel, .sentinel, .sentinel, .data] true :=
  OpenClaim.laidByTextAt_later rfl rfl tie noOwnUnsafe
theorem tie2 : Tryd.prog.laidByTextLater [("timbre/api.ErrShort", Rows.laid_timbre_api_ErrShort), ("timbre/api.ErrVarint", Rows.laid_timbre_api_ErrVarint), ("timbre/api.ErrLimit", Rows.laid_timbre_api_ErrLimit), ("timbre/api.ErrTail", Rows.laid_timbre_api_ErrTail), ("timbre/api.ErrProgram", Rows.laid_timbre_api_ErrProgram), ("timbre/steps.table", Rows.laid_timbre_steps_table)] [.sentinel, .sentinel, .sentinel, .sentinel, .sentinel, .data] true :=
  Program.laidByTextLater.sub seatTie1 ["timbre/api.ErrShort", "timbre/api.ErrVarint", "timbre/api.ErrLimit", "timbre/api.ErrTail", "timbre/api.ErrProgram", "timbre/steps.table"] (by kernel_rfl) (by kernel_rfl)
theorem stepsFields_row_tie : Rows.stepsFieldsRow.laidByTextAt .later Tryd.pinned [.sentinel, .sentinel, .sentinel, .sentinel, .sentinel, .data] true :=
  OpenClaim.laidByTextAt_later rfl rfl tie2 noOwnUnsafe
theorem stepsSame_row_tie : Rows.stepsSameRow.laidByTextAt .later Tryd.pinned [.sentinel, .sentinel, .sentinel, .sentinel, .sentinel, .data] true :=
  OpenClaim.laidByTextAt_later rfl rfl tie2 noOwnUnsafe
theorem stepsNames_row_tie : Rows.stepsNamesRow.laidByTextAt .later Tryd.pinned [.sentinel, .sentinel, .sentinel, .sentinel, .sentinel, .data] true :=
  OpenClaim.laidByTextAt_later rfl rfl tie2 noOwnUnsafe
theorem stepsFormsUpto_row_tie : Rows.stepsFormsUptoRow.laidByTextAt .later Tryd.pinned [.sentinel, .sentinel, .sentinel, .sentinel, .sentinel, .sentinel, .sentinel, .sentinel, .sentinel, .sentinel, .sentinel, .sentinel, .sentinel, .sentinel, .sentinel, .sentinel, .sentinel, .sentinel, .sentinel, .data] true :=
  OpenClaim.laidByTextAt_later rfl rfl tie noOwnUnsafe
theorem stepsEncodesUpto_row_tie : Rows.stepsEncodesUptoRow.laidByTextAt .later Tryd.pinned [.sentinel, .sentinel, .sentinel, .sentinel, .sentinel, .sentinel, .sentinel, .sentinel, .sentinel, .sentinel, .sentinel, .sentinel, .sentinel, .sentinel, .sentinel, .sentinel, .sentinel, .sentinel, .sentinel, .data] true :=
  OpenClaim.laidByTextAt_later rfl rfl tie noOwnUnsafe
theorem stepsDecodesUpto_row_tie : Rows.stepsDecodesUptoRow.laidByTextAt .later Tryd.pinned [.sentinel, .sentinel, .sentinel, .sentinel, .sentinel, .sentinel, .sentinel, .sentinel, .sentinel, .sentinel, .sentinel, .sentinel, .sentinel, .sentinel, .sentinel, .sentinel, .sentinel, .sentinel, .sentinel, .data] true :=
  OpenClaim.laidByTextAt_later rfl rfl tie noOwnUnsafe
theorem stepsBackUpto_row_tie : Rows.stepsBackUptoRow.laidByTextAt .later Tryd.pinned [.sentinel, .sentinel, .sentinel, .sentinel, .sentinel, .sentinel, .sentinel, .sentinel, .sentinel, .sentinel, .sentinel, .sentinel, .sentinel, .sentinel, .sentinel, .sentinel, .sentinel, .sentinel, .sentinel, .data] true :=
  OpenClaim.laidByTextAt_later rfl rfl tie noOwnUnsafe
theorem stepsFieldsUpto_row_tie : Rows.stepsFieldsUptoRow.laidByTextAt .later Tryd.pinned [.sentinel, .sentinel, .sentinel, .sentinel, .sentinel, .data] true :=
  OpenClaim.laidByTextAt_later rfl rfl tie2 noOwnUnsafe
theorem stepsSameUpto_row_tie : Rows.stepsSameUptoRow.laidByTextAt .later Tryd.pinned [.sentinel, .sentinel, .sentinel, .sentinel, .sentinel, .data] true :=
  OpenClaim.laidByTextAt_later rfl rfl tie2 noOwnUnsafe
theorem stepsNamesUpto_row_tie : Rows.stepsNamesUptoRow.laidByTextAt .later Tryd.pinned [.sentinel, .sentinel, .sentinel, .sentinel, .sentinel, .data] true :=
  OpenClaim.laidByTextAt_later rfl rfl tie2 noOwnUnsafe
end Go.Proofs.YtnbbeghaeijcbaaDoor
