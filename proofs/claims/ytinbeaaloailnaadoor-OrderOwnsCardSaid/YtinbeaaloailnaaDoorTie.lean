/-
  DERIVED. GIVEN WITH THE SEED: THE PROGRAM's TIES (one call each: nine closed facts by the kernel) AND EACH ROW's TIE, after the 31st guide's Derived/Test/Toyas{Tie, Card}.lean. No idea stands in it: it is a product of the set-up. Laid BY PROGRAM, IN A SANDBOX (cutbox-door.mjs). By AI agents, Wed Nov 11 2026. No macro, syntax, notation, axiom, sorry.
-/
import Derived.Test.YtinbeaaloailnaaDoorRows
import Derived.LaidByTextLater
import Derived.SevenTiedAt
import Derived.LaidSub
import Derived.LaidOnce
namespace Go.Proofs.YtinbeaaloailnaaDoor
open Go
set_option maxRecDepth 100000
theorem seatTie1 : Tryd.prog.laidByTextLater [("math/bits.deBruijn32tab", Rows.laid_math_bits_deBruijn32tab), ("math/bits.deBruijn64tab", Rows.laid_math_bits_deBruijn64tab), ("internal/strconv.uint64pow10", Rows.laid_internal_strconv_uint64pow10), ("timbre/api.ErrShort", Rows.laid_timbre_api_ErrShort), ("timbre/api.ErrVarint", Rows.laid_timbre_api_ErrVarint), ("timbre/api.ErrLimit", Rows.laid_timbre_api_ErrLimit), ("timbre/api.ErrTail", Rows.laid_timbre_api_ErrTail), ("timbre/api.ErrRange", Rows.laid_timbre_api_ErrRange), ("timbre/api.ErrText", Rows.laid_timbre_api_ErrText), ("timbre/api.ErrLength", Rows.laid_timbre_api_ErrLength), ("timbre/api.ErrOrder", Rows.laid_timbre_api_ErrOrder), ("timbre/api.ErrProgram", Rows.laid_timbre_api_ErrProgram), ("timbre/api.ErrState", Rows.laid_timbre_api_ErrState), ("timbre/api.ErrRoot", Rows.laid_timbre_api_ErrRoot), ("timbre/api.ErrPerm", Rows.laid_timbre_api_ErrPerm), ("timbre/api.ErrNumber", Rows.laid_timbre_api_ErrNumber), ("timbre/api.ErrWorkers", Rows.laid_timbre_api_ErrWorkers), ("timbre/api.ErrDone", Rows.laid_timbre_api_ErrDone), ("timbre/api.ErrUnknown", Rows.laid_timbre_api_ErrUnknown), ("timbre/api.ErrMode", Rows.laid_timbre_api_ErrMode), ("timbre/api.ErrCommand", Rows.laid_timbre_api_ErrCommand), ("timbre/api.ErrExact", Rows.laid_timbre_api_ErrExact)] [.data, .data, .data, .sentinel, .sentinel, .sentinel, .sentinel, .sentinel, .sentinel, .sentinel, .sentinel, .sentinel, .sentinel, .sentinel, .sentinel, .sentinel, .sentinel, .sentinel, .sentinel, .sentinel, .sentinel, .sentinel] true :=
  Program.laidByTextLater_by_one 385 8 65 (by kernel_rfl) (by kernel_rfl) (by kernel_rfl) (by kernel_rfl) (by kernel_rfl) (by kernel_rfl) (fun _ _ => by kernel_rfl)
theorem noOwnUnsafe : Tryd.pinned.checked.prog.headLifts.contains "ownunsafe" = false := by kernel_rfl
theorem tie : Tryd.prog.laidByTextLater [("math/bits.deBruijn32tab", Rows.laid_math_bits_deBruijn32tab), ("math/bits.deBruijn64tab", Rows.laid_math_bits_deBruijn64tab), ("internal/strconv.uint64pow10", Rows.laid_internal_strconv_uint64pow10), ("timbre/api.ErrShort", Rows.laid_timbre_api_ErrShort), ("timbre/api.ErrVarint", Rows.laid_timbre_api_ErrVarint), ("timbre/api.ErrLimit", Rows.laid_timbre_api_ErrLimit), ("timbre/api.ErrTail", Rows.laid_timbre_api_ErrTail), ("timbre/api.ErrRange", Rows.laid_timbre_api_ErrRange), ("timbre/api.ErrText", Rows.laid_timbre_api_ErrText), ("timbre/api.ErrLength", Rows.laid_timbre_api_ErrLength), ("timbre/api.ErrOrder", Rows.laid_timbre_api_ErrOrder), ("timbre/api.ErrProgram", Rows.laid_timbre_api_ErrProgram), ("timbre/api.ErrState", Rows.laid_timbre_api_ErrState), ("timbre/api.ErrRoot", Rows.laid_timbre_api_ErrRoot), ("timbre/api.ErrPerm", Rows.laid_timbre_api_ErrPerm), ("timbre/api.ErrNumber", Rows.laid_timbre_api_ErrNumber), ("timbre/api.ErrWorkers", Rows.laid_timbre_api_ErrWorkers), ("timbre/api.ErrDone", Rows.laid_timbre_api_ErrDone), ("timbre/api.ErrUnknown", Rows.laid_timbre_api_ErrUnknown), ("timbre/api.ErrMode", Rows.laid_timbre_api_ErrMode), ("timbre/api.ErrCommand", Rows.laid_timbre_api_ErrCommand), ("timbre/api.ErrExact", Rows.laid_timbre_api_ErrExact)] [.data, .data, .data, .sentinel, .sentinel, .sentinel, .sentinel, .sentinel, .sentinel, .sentinel, .sentinel, .sentinel, .sentinel, .sentinel, .sentinel, .sentinel, .sentinel, .sentinel, .sentinel, .sentinel, .sentinel, .sentinel] true :=
  Program.laidByTextLater.sub seatTie1 ["math/bits.deBruijn32tab", "math/bits.deBruijn64tab", "internal/strconv.uint64pow10", "timbre/api.ErrShort", "timbre/api.ErrVarint", "timbre/api.ErrLimit", "timbre/api.ErrTail", "timbre/api.ErrRange", "timbre/api.ErrText", "timbre/api.ErrLength", "timbre/api.ErrOrder", "timbre/api.ErrProgram", "timbre/api.ErrState", "timbre/api.ErrRoot", "timbre/api.ErrPerm", "timbre/api.ErrNumber", "timbre/api.ErrWorkers", "timbre/api.ErrDone", "timbre/api.ErrUnknown", "timbre/api.ErrMode", "timbre/api.ErrCommand", "timbre/api.ErrExact"] (by kernel_rfl) (by kernel_rfl)
theorem orderParses_row_tie : Rows.orderParsesRow.laidByTextAt .later Tryd.pinned [.data, .data, .data, .sentinel, .sentinel, .sentinel, .sentinel, .sentinel, .sentinel, .sentinel, .sentinel, .sentinel, .sentinel, .sentinel, .sentinel, .sentinel, .sentinel, .sentinel, .sentinel, .sentinel, .sentinel, .sentinel] true :=
  OpenClaim.laidByTextAt_later rfl rfl tie noOwnUnsafe
theorem orderAsks_row_tie : Rows.orderAsksRow.laidByTextAt .later Tryd.pinned [.data, .data, .data, .sentinel, .sentinel, .sentinel, .sentinel, .sentinel, .sentinel, .sentinel, .sentinel, .sentinel, .sentinel, .sentinel, .sentinel, .sentinel, .sentinel, .sentinel, .sentinel, .sentinel, .sentinel, .sentinel] true :=
  OpenClaim.laidByTextAt_later rfl rfl tie noOwnUnsafe
theorem tie2 : Tryd.prog.laidByTextLater [("math/bits.deBruijn32tab", Rows.laid_math_bits_deBruijn32tab), ("math/bits.deBruijn64tab", Rows.laid_math_bits_deBruijn64tab), ("internal/strconv.uint64pow10", Rows.laid_internal_strconv_uint64pow10), ("timbre/api.ErrLimit", Rows.laid_timbre_api_ErrLimit), ("timbre/api.ErrText", Rows.laid_timbre_api_ErrText), ("timbre/api.ErrOrder", Rows.laid_timbre_api_ErrOrder)] [.data, .data, .data, .sentinel, .sentinel, .sentinel] true :=
  Program.laidByTextLater.sub seatTie1 ["math/bits.deBruijn32tab", "math/bits.deBruijn64tab", "internal/strconv.uint64pow10", "timbre/api.ErrLimit", "timbre/api.ErrText", "timbre/api.ErrOrder"] (by kernel_rfl) (by kernel_rfl)
theorem orderPlaces_row_tie : Rows.orderPlacesRow.laidByTextAt .later Tryd.pinned [.data, .data, .data, .sentinel, .sentinel, .sentinel] true :=
  OpenClaim.laidByTextAt_later rfl rfl tie2 noOwnUnsafe
theorem orderBack_row_tie : Rows.orderBackRow.laidByTextAt .later Tryd.pinned [.data, .data, .data, .sentinel, .sentinel, .sentinel] true :=
  OpenClaim.laidByTextAt_later rfl rfl tie2 noOwnUnsafe
theorem orderOwns_row_tie : Rows.orderOwnsRow.laidByTextAt .later Tryd.pinned [.data, .data, .data, .sentinel, .sentinel, .sentinel] true :=
  OpenClaim.laidByTextAt_later rfl rfl tie2 noOwnUnsafe
theorem orderTrees_row_tie : Rows.orderTreesRow.laidByTextAt .later Tryd.pinned [.data, .data, .data, .sentinel, .sentinel, .sentinel] true :=
  OpenClaim.laidByTextAt_later rfl rfl tie2 noOwnUnsafe
theorem orderParsesUpto_row_tie : Rows.orderParsesUptoRow.laidByTextAt .later Tryd.pinned [.data, .data, .data, .sentinel, .sentinel, .sentinel, .sentinel, .sentinel, .sentinel, .sentinel, .sentinel, .sentinel, .sentinel, .sentinel, .sentinel, .sentinel, .sentinel, .sentinel, .sentinel, .sentinel, .sentinel, .sentinel] true :=
  OpenClaim.laidByTextAt_later rfl rfl tie noOwnUnsafe
theorem orderPlacesUpto_row_tie : Rows.orderPlacesUptoRow.laidByTextAt .later Tryd.pinned [.data, .data, .data, .sentinel, .sentinel, .sentinel] true :=
  OpenClaim.laidByTextAt_later rfl rfl tie2 noOwnUnsafe
theorem orderBackUpto_row_tie : Rows.orderBackUptoRow.laidByTextAt .later Tryd.pinned [.data, .data, .data, .sentinel, .sentinel, .sentinel] true :=
  OpenClaim.laidByTextAt_later rfl rfl tie2 noOwnUnsafe
theorem orderOwnsUpto_row_tie : Rows.orderOwnsUptoRow.laidByTextAt .later Tryd.pinned [.data, .data, .data, .sentinel, .sentinel, .sentinel] true :=
  OpenClaim.laidByTextAt_later rfl rfl tie2 noOwnUnsafe
theorem orderAsksUpto_row_tie : Rows.orderAsksUptoRow.laidByTextAt .later Tryd.pinned [.data, .data, .data, .sentinel, .sentinel, .sentinel, .sentinel, .sentinel, .sentinel, .sentinel, .sentinel, .sentinel, .sentinel, .sentinel, .sentinel, .sentinel, .sentinel, .sentinel, .sentinel, .sentinel, .sentinel, .sentinel] true :=
  OpenClaim.laidByTextAt_later rfl rfl tie noOwnUnsafe
theorem orderTreesUpto_row_tie : Rows.orderTreesUptoRow.laidByTextAt .later Tryd.pinned [.data, .data, .data, .sentinel, .sentinel, .sentinel] true :=
  OpenClaim.laidByTextAt_later rfl rfl tie2 noOwnUnsafe
end Go.Proofs.YtinbeaaloailnaaDoor
