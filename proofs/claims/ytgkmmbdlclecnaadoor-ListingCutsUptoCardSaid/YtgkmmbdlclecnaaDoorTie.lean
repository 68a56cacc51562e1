/-
  DERIVED. GIVEN WITH THE SEED: THE PROGRAM's TIES (one call each: nine closed facts by the kernel) AND EACH ROW's TIE, after the 31st guide's Derived/Test/Toyas{Tie, Card}.lean. No idea stands in it: it is a product of the set-up. Laid BY PROGRAM, IN A SANDBOX (cutbox-door.mjs). By AI agents, Wed Nov 11 2026. No macro, syntax, notation, axiom, sorry.
-/
import Derived.Test.YtgkmmbdlclecnaaDoorRows
import Derived.LaidByTextLater
import Derived.SevenTiedAt
import Derived.LaidSub
import Derived.LaidOnce
namespace Go.Proofs.YtgkmmbdlclecnaaDoor
open Go
set_option maxRecDepth 100000
theorem seatTie1 : Tryd.prog.laidByTextLater [("math/bits.deBruijn32tab", Rows.laid_math_bits_deBruijn32tab), ("math/bits.deBruijn64tab", Rows.laid_math_bits_deBruijn64tab), ("internal/strconv.uint64pow10", Rows.laid_internal_strconv_uint64pow10), ("timbre/api.ErrShort", Rows.laid_timbre_api_ErrShort), ("timbre/api.ErrVarint", Rows.laid_timbre_api_ErrVarint), ("timbre/api.ErrLimit", Rows.laid_timbre_api_ErrLimit), ("timbre/api.ErrTail", Rows.laid_timbre_api_ErrTail), ("timbre/api.ErrRange", Rows.laid_timbre_api_ErrRange), ("timbre/api.ErrText", Rows.laid_timbre_api_ErrText), ("timbre/api.ErrLength", Rows.laid_timbre_api_ErrLength), ("timbre/api.ErrOrder", Rows.laid_timbre_api_ErrOrder), ("timbre/api.ErrProgram", Rows.laid_timbre_api_ErrProgram), ("timbre/api.ErrState", Rows.laid_timbre_api_ErrState), ("timbre/api.ErrRoot", Rows.laid_timbre_api_ErrRoot), ("timbre/api.ErrPerm", Rows.laid_timbre_api_ErrPerm), ("timbre/api.ErrNumber", Rows.laid_timbre_api_ErrNumber), ("timbre/api.ErrWorkers", Rows.laid_timbre_api_ErrWorkers), ("timbre/api.ErrDone", Rows.laid_timbre_api_ErrDone), ("timbre/api.ErrUnknown", Rows.laid_timbre_api_ErrUnknown), ("timbre/api.ErrMode", Rows.laid_timbre_api_ErrMode), ("timbre/api.ErrCommand", Rows.laid_timbre_api_ErrCommand), ("timbre/api.ErrExact", Rows.laid_timbre_api_ErrExact), ("timbre/steps.table", Rows.laid_timbre_steps_table)] [.data, .data, .data, .sentinel, .sentinel, .sentinel, .sentinel, .sentinel, .sentinel, .sentinel, .sentinel, .sentinel, .sentinel, .sentinel, .sentinel, .sentinel, .sentinel, .sentinel, .sentinel, .sentinel, .sentinel, .sentinel, .data] true :=
  Program.laidByTextLater_by_one 450 8 65 (by kernel_rfl) (by kernel_rfl) (by kernel_rfl) (by kernel_rfl) (by kernel_rfl) (by kernel_rfl) (fun _ _ => by kernel_rfl)
theorem seatTie2 : Tryd.prog.laidByTextLater [("math/bits.deBruijn32tab", Rows.laid_math_bits_deBruijn32tab), ("math/bits.deBruijn64tab", Rows.laid_math_bits_deBruijn64tab), ("internal/strconv.uint64pow10", Rows.laid_internal_strconv_uint64pow10), ("unicode/utf8.acceptRanges", Rows.laid_unicode_utf8_acceptRanges), ("strconv.ErrRange", Rows.laid_strconv_ErrRange), ("strconv.ErrSyntax", Rows.laid_strconv_ErrSyntax), ("timbre/api.ErrShort", Rows.laid_timbre_api_ErrShort), ("timbre/api.ErrVarint", Rows.laid_timbre_api_ErrVarint), ("timbre/api.ErrLimit", Rows.laid_timbre_api_ErrLimit), ("timbre/api.ErrTail", Rows.laid_timbre_api_ErrTail), ("timbre/api.ErrRange", Rows.laid_timbre_api_ErrRange), ("timbre/api.ErrText", Rows.laid_timbre_api_ErrText), ("timbre/api.ErrLength", Rows.laid_timbre_api_ErrLength), ("timbre/api.ErrOrder", Rows.laid_timbre_api_ErrOrder), ("timbre/api.ErrProgram", Rows.laid_timbre_api_ErrProgram), ("timbre/api.ErrState", Rows.laid_timbre_api_ErrState), ("timbre/api.ErrRoot", Rows.laid_timbre_api_ErrRoot), ("timbre/api.ErrPerm", Rows.laid_timbre_api_ErrPerm), ("timbre/api.ErrNumber", Rows.laid_timbre_api_ErrNumber), ("timbre/api.ErrWorkers", Rows.laid_timbre_api_ErrWorkers), ("timbre/api.ErrDone", Rows.laid_timbre_api_ErrDone), ("timbre/api.ErrUnknown", Rows.laid_timbre_api_ErrUnknown), ("timbre/api.ErrMode", Rows.laid_timbre_api_ErrMode), ("timbre/api.ErrCommand", Rows.laid_timbre_api_ErrCommand), ("timbre/api.ErrExact", Rows.laid_timbre_api_ErrExact), ("timbre/steps.table", Rows.laid_timbre_steps_table)] [.data, .data, .data, .data, .sentinel, .sentinel, .sentinel, .sentinel, .sentinel, .sentinel, .sentinel, .sentinel, .sentinel, .sentinel, .sentinel, .sentinel, .sentinel, .sentinel, .sentinel, .sentinel, .sentinel, .sentinel, .sentinel, .sentinel, .sentinel, .data] true :=
  Program.laidByTextLater_by_one 450 8 65 (by kernel_rfl) (by kernel_rfl) (by kernel_rfl) (by kernel_rfl) (by kernel_rfl) (by kernel_rfl) (fun _ _ => by kernel_rfl)
theorem seatTie3 : Tryd.prog.laidByTextLater [("math/bits.deBruijn32tab", Rows.laid_math_bits_deBruijn32tab), ("math/bits.deBruijn64tab", Rows.laid_math_bits_deBruijn64tab), ("internal/strconv.uint64pow10", Rows.laid_internal_strconv_uint64pow10), ("unicode/utf8.acceptRanges", Rows.laid_unicode_utf8_acceptRanges), ("strconv.ErrRange", Rows.laid_strconv_ErrRange), ("strconv.ErrSyntax", Rows.laid_strconv_ErrSyntax), ("timbre/api.ErrText", Rows.laid_timbre_api_ErrText), ("timbre/api.ErrProgram", Rows.laid_timbre_api_ErrProgram), ("timbre/steps.table", Rows.laid_timbre_steps_table)] [.data, .data, .data, .data, .sentinel, .sentinel, .sentinel, .sentinel, .data] true :=
  Program.laidByTextLater_by_one 450 8 65 (by kernel_rfl) (by kernel_rfl) (by kernel_rfl) (by kernel_rfl) (by kernel_rfl) (by kernel_rfl) (fun _ _ => by kernel_rfl)
theorem pin_laid_unicode_utf8_first : Tryd.pinned.checked.prog.pinnedFits "unicode/utf8.first" = true := by kernel_rfl
theorem noOwnUnsafe : Tryd.pinned.checked.prog.headLifts.contains "ownunsafe" = false := by kernel_rfl
theorem tie : Tryd.prog.laidByTextLater [("math/bits.deBruijn32tab", Rows.laid_math_bits_deBruijn32tab), ("math/bits.deBruijn64tab", Rows.laid_math_bits_deBruijn64tab), ("internal/strconv.uint64pow10", Rows.laid_internal_strconv_uint64pow10), ("timbre/api.ErrShort", Rows.laid_timbre_api_ErrShort), ("timbre/api.ErrVarint", Rows.laid_timbre_api_ErrVarint), ("timbre/api.ErrLimit", Rows.laid_timbre_api_ErrLimit), ("timbre/api.ErrTail", Rows.laid_timbre_api_ErrTail), ("timbre/api.ErrRange", Rows.laid_timbre_api_ErrRange), ("timbre/api.ErrText", Rows.laid_timbre_api_ErrText), ("timbre/api.ErrLength", Rows.laid_timbre_api_ErrLength), ("timbre/api.ErrOrder", Rows.laid_timbre_api_ErrOrder), ("timbre/api.ErrProgram", Rows.laid_timbre_api_ErrProgram), ("timbre/api.ErrState", Rows.laid_timbre_api_ErrState), ("timbre/api.ErrRoot", Rows.laid_timbre_api_ErrRoot), ("timbre/api.ErrPerm", Rows.laid_timbre_api_ErrPerm), ("timbre/api.ErrNumber", Rows.laid_timbre_api_ErrNumber), ("timbre/api.ErrWorkers", Rows.laid_timbre_api_ErrWorkers), ("timbre/api.ErrDone", Rows.laid_timbre_api_ErrDone), ("timbre/api.ErrUnknown", Rows.laid_timbre_api_ErrUnknown), ("timbre/api.ErrMode", Rows.laid_timbre_api_ErrMode), ("timbre/api.ErrCommand", Rows.laid_timbre_api_ErrCommand), ("timbre/api.ErrExact", Rows.laid_timbre_api_ErrExact), ("timbre/steps.table", Rows.laid_timbre_steps_table)] [.data, .data, .data, .sentinel, .sentinel, .sentinel, .sentinel, .sentinel, .sentinel, .sentinel, .sentinel, .sentinel, .sentinel, .sentinel, .sentinel, .sentinel, .sentinel, .sentinel, .sentinel, .sentinel, .sentinel, .sentinel, .data] true :=
  Program.laidByTextLater.sub seatTie1 ["math/bits.deBruijn32tab", "math/bits.deBruijn64tab", "internal/strconv.uint64pow10", "timbre/api.ErrShort", "timbre/api.ErrVarint", "timbre/api.ErrLimit", "timbre/api.ErrTail", "timbre/api.ErrRange", "timbre/api.ErrText", "timbre/api.ErrLength", "timbre/api.ErrOrder", "timbre/api.ErrProgram", "timbre/api.ErrState", "timbre/api.ErrRoot", "timbre/api.ErrPerm", "timbre/api.ErrNumber", "timbre/api.ErrWorkers", "timbre/api.ErrDone", "timbre/api.ErrUnknown", "timbre/api.ErrMode", "timbre/api.ErrCommand", "timbre/api.ErrExact", "timbre/steps.table"] (by kernel_rfl) (by kernel_rfl)
theorem listingTexts_row_tie : Rows.listingTextsRow.laidByTextAt .later Tryd.pinned [.data, .data, .data, .sentinel, .sentinel, .sentinel, .sentinel, .sentinel, .sentinel, .sentinel, .sentinel, .sentinel, .sentinel, .sentinel, .sentinel, .sentinel, .sentinel, .sentinel, .sentinel, .sentinel, .sentinel, .sentinel, .data] true :=
  OpenClaim.laidByTextAt_later rfl rfl tie noOwnUnsafe
theorem fits2 : Tryd.pinned.checked.prog.listedFits [("math/bits.deBruijn32tab", Rows.laid_math_bits_deBruijn32tab), ("math/bits.deBruijn64tab", Rows.laid_math_bits_deBruijn64tab), ("internal/strconv.uint64pow10", Rows.laid_internal_strconv_uint64pow10), ("unicode/utf8.acceptRanges", Rows.laid_unicode_utf8_acceptRanges), ("strconv.ErrRange", Rows.laid_strconv_ErrRange), ("strconv.ErrSyntax", Rows.laid_strconv_ErrSyntax), ("timbre/api.ErrShort", Rows.laid_timbre_api_ErrShort), ("timbre/api.ErrVarint", Rows.laid_timbre_api_ErrVarint), ("timbre/api.ErrLimit", Rows.laid_timbre_api_ErrLimit), ("timbre/api.ErrTail", Rows.laid_timbre_api_ErrTail), ("timbre/api.ErrRange", Rows.laid_timbre_api_ErrRange), ("timbre/api.ErrText", Rows.laid_timbre_api_ErrText), ("timbre/api.ErrLength", Rows.laid_timbre_api_ErrLength), ("timbre/api.ErrOrder", Rows.laid_timbre_api_ErrOrder), ("timbre/api.ErrProgram", Rows.laid_timbre_api_ErrProgram), ("timbre/api.ErrState", Rows.laid_timbre_api_ErrState), ("timbre/api.ErrRoot", Rows.laid_timbre_api_ErrRoot), ("timbre/api.ErrPerm", Rows.laid_timbre_api_ErrPerm), ("timbre/api.ErrNumber", Rows.laid_timbre_api_ErrNumber), ("timbre/api.ErrWorkers", Rows.laid_timbre_api_ErrWorkers), ("timbre/api.ErrDone", Rows.laid_timbre_api_ErrDone), ("timbre/api.ErrUnknown", Rows.laid_timbre_api_ErrUnknown), ("timbre/api.ErrMode", Rows.laid_timbre_api_ErrMode), ("timbre/api.ErrCommand", Rows.laid_timbre_api_ErrCommand), ("timbre/api.ErrExact", Rows.laid_timbre_api_ErrExact), ("timbre/steps.table", Rows.laid_timbre_steps_table), ("unicode/utf8.first", Rows.laid_unicode_utf8_first)] = true := by
  unfold Program.listedFits
  rw [noOwnUnsafe]
  kernel_rfl
theorem tie2 : Tryd.prog.laidByTextLater [("math/bits.deBruijn32tab", Rows.laid_math_bits_deBruijn32tab), ("math/bits.deBruijn64tab", Rows.laid_math_bits_deBruijn64tab), ("internal/strconv.uint64pow10", Rows.laid_internal_strconv_uint64pow10), ("unicode/utf8.acceptRanges", Rows.laid_unicode_utf8_acceptRanges), ("strconv.ErrRange", Rows.laid_strconv_ErrRange), ("strconv.ErrSyntax", Rows.laid_strconv_ErrSyntax), ("timbre/api.ErrShort", Rows.laid_timbre_api_ErrShort), ("timbre/api.ErrVarint", Rows.laid_timbre_api_ErrVarint), ("timbre/api.ErrLimit", Rows.laid_timbre_api_ErrLimit), ("timbre/api.ErrTail", Rows.laid_timbre_api_ErrTail), ("timbre/api.ErrRange", Rows.laid_timbre_api_ErrRange), ("timbre/api.ErrText", Rows.laid_timbre_api_ErrText), ("timbre/api.ErrLength", Rows.laid_timbre_api_ErrLength), ("timbre/api.ErrOrder", Rows.laid_timbre_api_ErrOrder), ("timbre/api.ErrProgram", Rows.laid_timbre_api_ErrProgram), ("timbre/api.ErrState", Rows.laid_timbre_api_ErrState), ("timbre/api.ErrRoot", Rows.laid_timbre_api_ErrRoot), ("timbre/api.ErrPerm", Rows.laid_timbre_api_ErrPerm), ("timbre/api.ErrNumber", Rows.laid_timbre_api_ErrNumber), ("timbre/api.ErrWorkers", Rows.laid_timbre_api_ErrWorkers), ("timbre/api.ErrDone", Rows.laid_timbre_api_ErrDone), ("timbre/api.ErrUnknown", Rows.laid_timbre_api_ErrUnknown), ("timbre/api.ErrMode", Rows.laid_timbre_api_ErrMode), ("timbre/api.ErrCommand", Rows.laid_timbre_api_ErrCommand), ("timbre/api.ErrExact", Rows.laid_timbre_api_ErrExact), ("timbre/steps.table", Rows.laid_timbre_steps_table)] [.data, .data, .data, .data, .sentinel, .sentinel, .sentinel, .sentinel, .sentinel, .sentinel, .sentinel, .sentinel, .sentinel, .sentinel, .sentinel, .sentinel, .sentinel, .sentinel, .sentinel, .sentinel, .sentinel, .sentinel, .sentinel, .sentinel, .sentinel, .data] true :=
  Program.laidByTextLater.sub seatTie2 ["math/bits.deBruijn32tab", "math/bits.deBruijn64tab", "internal/strconv.uint64pow10", "unicode/utf8.acceptRanges", "strconv.ErrRange", "strconv.ErrSyntax", "timbre/api.ErrShort", "timbre/api.ErrVarint", "timbre/api.ErrLimit", "timbre/api.ErrTail", "timbre/api.ErrRange", "timbre/api.ErrText", "timbre/api.ErrLength", "timbre/api.ErrOrder", "timbre/api.ErrProgram", "timbre/api.ErrState", "timbre/api.ErrRoot", "timbre/api.ErrPerm", "timbre/api.ErrNumber", "timbre/api.ErrWorkers", "timbre/api.ErrDone", "timbre/api.ErrUnknown", "timbre/api.ErrMode", "timbre/api.ErrCommand", "timbre/api.ErrExact", "timbre/steps.table"] (by kernel_rfl) (by kernel_rfl)
theorem listingReads_row_tie : Rows.listingReadsRow.laidByTextAt .later Tryd.pinned [.data, .data, .data, .data, .sentinel, .sentinel, .sentinel, .sentinel, .sentinel, .sentinel, .sentinel, .sentinel, .sentinel, .sentinel, .sentinel, .sentinel, .sentinel, .sentinel, .sentinel, .sentinel, .sentinel, .sentinel, .sentinel, .sentinel, .sentinel, .data, .pinned] true :=
  OpenClaim.laidByTextAt_pinned rfl rfl tie2 rfl rfl rfl rfl (fun y hy _e => by
    simp only [Rows.listingReadsRow, List.zip_cons_cons, List.zip_nil_right, List.mem_cons, List.mem_nil_iff, or_false] at hy
    rcases hy with rfl | rfl | rfl | rfl | rfl | rfl | rfl | rfl | rfl | rfl | rfl | rfl | rfl | rfl | rfl | rfl | rfl | rfl | rfl | rfl | rfl | rfl | rfl | rfl | rfl | rfl | rfl
    · cases _e
    · cases _e
    · cases _e
    · cases _e
    · cases _e
    · cases _e
    · cases _e
    · cases _e
    · cases _e
    · cases _e
    · cases _e
    · cases _e
    · cases _e
    · cases _e
    · cases _e
    · cases _e
    · cases _e
    · cases _e
    · cases _e
    · cases _e
    · cases _e
    · cases _e
    · cases _e
    · cases _e
    · cases _e
    · cases _e
    · exact ⟨pin_laid_unicode_utf8_first, by kernel_rfl⟩) fits2
theorem fits3 : Tryd.pinned.checked.prog.listedFits [("math/bits.deBruijn32tab", Rows.laid_math_bits_deBruijn32tab), ("math/bits.deBruijn64tab", Rows.laid_math_bits_deBruijn64tab), ("internal/strconv.uint64pow10", Rows.laid_internal_strconv_uint64pow10), ("unicode/utf8.acceptRanges", Rows.laid_unicode_utf8_acceptRanges), ("strconv.ErrRange", Rows.laid_strconv_ErrRange), ("strconv.ErrSyntax", Rows.laid_strconv_ErrSyntax), ("timbre/api.ErrText", Rows.laid_timbre_api_ErrText), ("timbre/api.ErrProgram", Rows.laid_timbre_api_ErrProgram), ("timbre/steps.table", Rows.laid_timbre_steps_table), ("unicode/utf8.first", Rows.laid_unicode_utf8_first)] = true := by
  unfold Program.listedFits
  rw [noOwnUnsafe]
  kernel_rfl
theorem tie3 : Tryd.prog.laidByTextLater [("math/bits.deBruijn32tab", Rows.laid_math_bits_deBruijn32tab), ("math/bits.deBruijn64tab", Rows.laid_math_bits_deBruijn64tab), ("internal/strconv.uint64pow10", Rows.laid_internal_strconv_uint64pow10), ("unicode/utf8.acceptRanges", Rows.laid_unicode_utf8_acceptRanges), ("strconv.ErrRange", Rows.laid_strconv_ErrRange), ("strconv.ErrSyntax", Rows.laid_strconv_ErrSyntax), ("timbre/api.ErrText", Rows.laid_timbre_api_ErrText), ("timbre/api.ErrProgram", Rows.laid_timbre_api_ErrProgram), ("timbre/steps.table", Rows.laid_timbre_steps_table)] [.data, .data, .data, .data, .sentinel, .sentinel, .sentinel, .sentinel, .data] true :=
  Program.laidByTextLater.sub seatTie3 ["math/bits.deBruijn32tab", "math/bits.deBruijn64tab", "internal/strconv.uint64pow10", "unicode/utf8.acceptRanges", "strconv.ErrRange", "strconv.ErrSyntax", "timbre/api.ErrText", "timbre/api.ErrProgram", "timbre/steps.table"] (by kernel_rfl) (by kernel_rfl)
theorem listingBack_row_tie : Rows.listingBackRow.laidByTextAt .later Tryd.pinned [.data, .data, .data, .data, .sentinel, .sentinel, .sentinel, .sentinel, .data, .pinned] true :=
  OpenClaim.laidByTextAt_pinned rfl rfl tie3 rfl rfl rfl rfl (fun y hy _e => by
    simp only [Rows.listingBackRow, List.zip_cons_cons, List.zip_nil_right, List.mem_cons, List.mem_nil_iff, or_false] at hy
    rcases hy with rfl | rfl | rfl | rfl | rfl | rfl | rfl | rfl | rfl | rfl
    · cases _e
    · cases _e
    · cases _e
    · cases _e
    · cases _e
    · cases _e
    · cases _e
    · cases _e
    · cases _e
    · exact ⟨pin_laid_unicode_utf8_first, by kernel_rfl⟩) fits3
theorem listingCuts_row_tie : Rows.listingCutsRow.laidByTextAt .later Tryd.pinned [.data, .data, .data, .data, .sentinel, .sentinel, .sentinel, .sentinel, .data, .pinned] true :=
  OpenClaim.laidByTextAt_pinned rfl rfl tie3 rfl rfl rfl rfl (fun y hy _e => by
    simp only [Rows.listingCutsRow, List.zip_cons_cons, List.zip_nil_right, List.mem_cons, List.mem_nil_iff, or_false] at hy
    rcases hy with rfl | rfl | rfl | rfl | rfl | rfl | rfl | rfl | rfl | rfl
    · cases _e
    · cases _e
    · cases _e
    · cases _e
    · cases _e
    · cases _e
    · cases _e
    · cases _e
    · cases _e
    · exact ⟨pin_laid_unicode_utf8_first, by kernel_rfl⟩) fits3
theorem listingTextsUpto_row_tie : Rows.listingTextsUptoRow.laidByTextAt .later Tryd.pinned [.data, .data, .data, .sentinel, .sentinel, .sentinel, .sentinel, .sentinel, .sentinel, .sentinel, .sentinel, .sentinel, .sentinel, .sentinel, .sentinel, .sentinel, .sentinel, .sentinel, .sentinel, .sentinel, .sentinel, .sentinel, .data] true :=
  OpenClaim.laidByTextAt_later rfl rfl tie noOwnUnsafe
theorem listingReadsUpto_row_tie : Rows.listingReadsUptoRow.laidByTextAt .later Tryd.pinned [.data, .data, .data, .data, .sentinel, .sentinel, .sentinel, .sentinel, .sentinel, .sentinel, .sentinel, .sentinel, .sentinel, .sentinel, .sentinel, .sentinel, .sentinel, .sentinel, .sentinel, .sentinel, .sentinel, .sentinel, .sentinel, .sentinel, .sentinel, .data, .pinned] true :=
  OpenClaim.laidByTextAt_pinned rfl rfl tie2 rfl rfl rfl rfl (fun y hy _e => by
    simp only [Rows.listingReadsUptoRow, List.zip_cons_cons, List.zip_nil_right, List.mem_cons, List.mem_nil_iff, or_false] at hy
    rcases hy with rfl | rfl | rfl | rfl | rfl | rfl | rfl | rfl | rfl | rfl | rfl | rfl | rfl | rfl | rfl | rfl | rfl | rfl | rfl | rfl | rfl | rfl | rfl | rfl | rfl | rfl | rfl
    · cases _e
    · cases _e
    · cases _e
    · cases _e
    · cases _e
    · cases _e
    · cases _e
    · cases _e
    · cases _e
    · cases _e
    · cases _e
    · cases _e
    · cases _e
    · cases _e
    · cases _e
    · cases _e
    · cases _e
    · cases _e
    · cases _e
    · cases _e
    · cases _e
    · cases _e
    · cases _e
    · cases _e
    · cases _e
    · cases _e
    · exact ⟨pin_laid_unicode_utf8_first, by kernel_rfl⟩) fits2
theorem listingBackUpto_row_tie : Rows.listingBackUptoRow.laidByTextAt .later Tryd.pinned [.data, .data, .data, .data, .sentinel, .sentinel, .sentinel, .sentinel, .data, .pinned] true :=
  OpenClaim.laidByTextAt_pinned rfl rfl tie3 rfl rfl rfl rfl (fun y hy _e => by
    simp only [Rows.listingBackUptoRow, List.zip_cons_cons, List.zip_nil_right, List.mem_cons, List.mem_nil_iff, or_false] at hy
    rcases hy with rfl | rfl | rfl | rfl | rfl | rfl | rfl | rfl | rfl | rfl
    · cases _e
    · cases _e
    · cases _e
    · cases _e
    · cases _e
    · cases _e
    · cases _e
    · cases _e
    · cases _e
    · exact ⟨pin_laid_unicode_utf8_first, by kernel_rfl⟩) fits3
theorem listingCutsUpto_row_tie : Rows.listingCutsUptoRow.laidByTextAt .later Tryd.pinned [.data, .data, .data, .data, .sentinel, .sentinel, .sentinel, .sentinel, .data, .pinned] true :=
  OpenClaim.laidByTextAt_pinned rfl rfl tie3 rfl rfl rfl rfl (fun y hy _e => by
    simp only [Rows.listingCutsUptoRow, List.zip_cons_cons, List.zip_nil_right, List.mem_cons, List.mem_nil_iff, or_false] at hy
    rcases hy with rfl | rfl | rfl | rfl | rfl | rfl | rfl | rfl | rfl | rfl
    · cases _e
    · cases _e
    · cases _e
    · cases _e
    · cases _e
    · cases _e
    · cases _e
    · cases _e
    · cases _e
    · exact ⟨pin_laid_unicode_utf8_first, by kernel_rfl⟩) fits3
end Go.Proofs.YtgkmmbdlclecnaaDoor
