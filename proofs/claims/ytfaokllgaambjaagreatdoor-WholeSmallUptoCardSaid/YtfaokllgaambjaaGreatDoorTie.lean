/-
  DERIVED. GIVEN WITH THE SEED: THE PROGRAM's TIES (one call each: nine closed facts by the kernel) AND EACH ROW's TIE, after the 31st guide's Derived/Test/Toyas{Tie, Card}.lean. No idea stands in it: it is a product of the set-up. Laid BY PROGRAM, IN A SANDBOX (cutbox-door.mjs). By AI agents, Wed Nov 11 2026. No macro, syntax, notation, axiom, sorry.
-/
import Derived.Test.YtfaokllgaambjaaGreatDoorRows
import Derived.LaidByTextLater
import Derived.SevenTiedAt
import Derived.LaidSub
import Derived.LaidOnce
namespace Go.Proofs.YtfaokllgaambjaaGreatDoor
open Go
set_option maxRecDepth 100000
theorem seatTie1 : Tryz.prog.laidByTextLater [("math/bits.deBruijn32tab", Rows.laid_math_bits_deBruijn32tab), ("math/bits.deBruijn64tab", Rows.laid_math_bits_deBruijn64tab), ("internal/strconv.uint64pow10", Rows.laid_internal_strconv_uint64pow10), ("timbre/api.ErrLimit", Rows.laid_timbre_api_ErrLimit), ("timbre/api.ErrRange", Rows.laid_timbre_api_ErrRange), ("timbre/api.ErrText", Rows.laid_timbre_api_ErrText), ("timbre/api.ErrLength", Rows.laid_timbre_api_ErrLength), ("timbre/api.ErrOrder", Rows.laid_timbre_api_ErrOrder), ("timbre/api.ErrProgram", Rows.laid_timbre_api_ErrProgram), ("timbre/api.ErrState", Rows.laid_timbre_api_ErrState), ("timbre/api.ErrDone", Rows.laid_timbre_api_ErrDone), ("timbre/api.ErrMode", Rows.laid_timbre_api_ErrMode), ("timbre/api.ErrExact", Rows.laid_timbre_api_ErrExact), ("timbre/steps.table", Rows.laid_timbre_steps_table)] [.data, .data, .data, .sentinel, .sentinel, .sentinel, .sentinel, .sentinel, .sentinel, .sentinel, .sentinel, .sentinel, .sentinel, .data] true :=
  Program.laidByTextLater_by_one 231 8 65 (by kernel_rfl) (by kernel_rfl) (by kernel_rfl) (by kernel_rfl) (by kernel_rfl) (by kernel_rfl) (fun _ _ => by kernel_rfl)
theorem noOwnUnsafe : Tryz.pinned.checked.prog.headLifts.contains "ownunsafe" = false := by kernel_rfl
theorem tie : Tryz.prog.laidByTextLater [("math/bits.deBruijn32tab", Rows.laid_math_bits_deBruijn32tab), ("math/bits.deBruijn64tab", Rows.laid_math_bits_deBruijn64tab), ("internal/strconv.uint64pow10", Rows.laid_internal_strconv_uint64pow10), ("timbre/api.ErrLimit", Rows.laid_timbre_api_ErrLimit), ("timbre/api.ErrRange", Rows.laid_timbre_api_ErrRange), ("timbre/api.ErrText", Rows.laid_timbre_api_ErrText), ("timbre/api.ErrLength", Rows.laid_timbre_api_ErrLength), ("timbre/api.ErrOrder", Rows.laid_timbre_api_ErrOrder), ("timbre/api.ErrProgram", Rows.laid_timbre_api_ErrProgram), ("timbre/api.ErrState", Rows.laid_timbre_api_ErrState), ("timbre/api.ErrDone", Rows.laid_timbre_api_ErrDone), ("timbre/api.ErrMode", Rows.laid_timbre_api_ErrMode), ("timbre/api.ErrExact", Rows.laid_timbre_api_ErrExact), ("timbre/steps.table", Rows.laid_timbre_steps_table)] [.data, .data, .data, .sentinel, .sentinel, .sentinel, .sentinel, .sentinel, .sentinel, .sentinel, .sentinel, .sentinel, .sentinel, .data] true :=
  Program.laidByTextLater.sub seatTie1 ["math/bits.deBruijn32tab", "math/bits.deBruijn64tab", "internal/strconv.uint64pow10", "timbre/api.ErrLimit", "timbre/api.ErrRange", "timbre/api.ErrText", "timbre/api.ErrLength", "timbre/api.ErrOrder", "timbre/api.ErrProgram", "timbre/api.ErrState", "timbre/api.ErrDone", "timbre/api.ErrMode", "timbre/api.ErrExact", "timbre/steps.table"] (by kernel_rfl) (by kernel_rfl)
theorem wholeSmall_row_tie : Rows.wholeSmallRow.laidByTextAt .later Tryz.pinned [.data, .data, .data, .sentinel, .sentinel, .sentinel, .sentinel, .sentinel, .sentinel, .sentinel, .sentinel, .sentinel, .sentinel, .data] true :=
  OpenClaim.laidByTextAt_later rfl rfl tie noOwnUnsafe
theorem wholeSmallUpto_row_tie : Rows.wholeSmallUptoRow.laidByTextAt .later Tryz.pinned [.data, .data, .data, .sentinel, .sentinel, .sentinel, .sentinel, .sentinel, .sentinel, .sentinel, .sentinel, .sentinel, .sentinel, .data] true :=
  OpenClaim.laidByTextAt_later rfl rfl tie noOwnUnsafe
end Go.Proofs.YtfaokllgaambjaaGreatDoor
