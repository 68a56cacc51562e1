/- What the rows give: the listed variables, the witness. -/
import Derived.Test.YtinbeaaloailnaaDoorPl
import Derived.Test.YtinbeaaloailnaaDoorCards
import Derived.Test.YtinbeaaloailnaaDoorTie
import Derived.LaidMore
import Derived.MakeChecks
import Derived.LaidHandle
namespace Go.Proofs.YtinbeaaloailnaaDoor
open Go Go.Eng
set_option maxRecDepth 100000
set_option linter.unusedVariables false
set_option linter.unusedSimpArgs false
open Go.ChangeShapes Go.WideShapes Go.ChangeAt Go.RowKit
theorem own : ownKnob Tryd.prog.godebug = none := by kernel_rfl
theorem laidOut : laidOutB Tryd.prog = true := by kernel_rfl
theorem errRow (u : TypeId) (h : Tryd.prog.typeName? 3 u = some "*errors.errorString") : u = 106 :=
  typeName_ptr_named (nm := "errors.errorString") (by kernel_rfl) (by kernel_rfl) (by decide) u h
theorem errT : ErrType Tryd.prog "*errors.errorString" 27 106 122 9 := ErrType.of (by kernel_rfl) errRow
theorem mem_of_var {W : World} {n : String} {g : Nat} {cs : Array Value} (hg : Tryd.prog.globalNamed n = some g) (hv : W.var? Tryd.prog n = some cs) : ∃ T fz, (g, Obj.cells cs T fz) ∈ [allOf W].flatten := by
  unfold World.var? at hv
  rw [hg] at hv
  simp only [Option.bind_some] at hv
  split at hv
  · rename_i c t fz hb
    cases hv
    exact ⟨t, fz, by simpa using allOf_mem hb⟩
  · cases hv
def es3 : List (String × List UInt8) := [("timbre/api.ErrLimit", [116, 105, 109, 98, 114, 101, 58, 32, 108, 105, 109, 105, 116]), ("timbre/api.ErrText", [116, 105, 109, 98, 114, 101, 58, 32, 116, 101, 120, 116]), ("timbre/api.ErrOrder", [116, 105, 109, 98, 114, 101, 58, 32, 111, 114, 100, 101, 114])]
def es19 : List (String × List UInt8) := [("timbre/api.ErrShort", [116, 105, 109, 98, 114, 101, 58, 32, 116, 111, 111, 32, 115, 104, 111, 114, 116]), ("timbre/api.ErrVarint", [116, 105, 109, 98, 114, 101, 58, 32, 118, 97, 114, 105, 110, 116]), ("timbre/api.ErrLimit", [116, 105, 109, 98, 114, 101, 58, 32, 108, 105, 109, 105, 116]), ("timbre/api.ErrTail", [116, 105, 109, 98, 114, 101, 58, 32, 116, 97, 105, 108]), ("timbre/api.ErrRange", [116, 105, 109, 98, 114, 101, 58, 32, 114, 97, 110, 103, 101]), ("timbre/api.ErrText", [116, 105, 109, 98, 114, 101, 58, 32, 116, 101, 120, 116]), ("timbre/api.ErrLength", [116, 105, 109, 98, 114, 101, 58, 32, 108, 101, 110, 103, 116, 104]), ("timbre/api.ErrOrder", [116, 105, 109, 98, 114, 101, 58, 32, 111, 114, 100, 101, 114]), ("timbre/api.ErrProgram", [116, 105, 109, 98, 114, 101, 58, 32, 112, 114, 111, 103, 114, 97, 109]), ("timbre/api.ErrState", [116, 105, 109, 98, 114, 101, 58, 32, 115, 116, 97, 116, 101]), ("timbre/api.ErrRoot", [116, 105, 109, 98, 114, 101, 58, 32, 114, 111, 111, 116]), ("timbre/api.ErrPerm", [116, 105, 109, 98, 114, 101, 58, 32, 112, 101, 114, 109, 117, 116, 97, 116, 105, 111, 110]), ("timbre/api.ErrNumber", [116, 105, 109, 98, 114, 101, 58, 32, 110, 117, 109, 98, 101, 114]), ("timbre/api.ErrWorkers", [116, 105, 109, 98, 114, 101, 58, 32, 119, 111, 114, 107, 101, 114, 115]), ("timbre/api.ErrDone", [116, 105, 109, 98, 114, 101, 58, 32, 100, 111, 110, 101]), ("timbre/api.ErrUnknown", [116, 105, 109, 98, 114, 101, 58, 32, 117, 110, 107, 110, 111, 119, 110]), ("timbre/api.ErrMode", [116, 105, 109, 98, 114, 101, 58, 32, 109, 111, 100, 101]), ("timbre/api.ErrCommand", [116, 105, 109, 98, 114, 101, 58, 32, 99, 111, 109, 109, 97, 110, 100]), ("timbre/api.ErrExact", [116, 105, 109, 98, 114, 101, 58, 32, 101, 120, 97, 99, 116])]
theorem names19 {n : Nat} (h0 : 1 ≤ n) (h1 : n ≤ 19) : ∃ nm txt, es19[n - 1]? = some (nm, txt) ∧ Tryd.prog.globalNamed nm = some ((errG[n]?).getD 0) := by
  have : n = 1 ∨ n = 2 ∨ n = 3 ∨ n = 4 ∨ n = 5 ∨ n = 6 ∨ n = 7 ∨ n = 8 ∨ n = 9 ∨ n = 10 ∨ n = 11 ∨ n = 12 ∨ n = 13 ∨ n = 14 ∨ n = 15 ∨ n = 16 ∨ n = 17 ∨ n = 18 ∨ n = 19 := by omega
  rcases this with rfl | rfl | rfl | rfl | rfl | rfl | rfl | rfl | rfl | rfl | rfl | rfl | rfl | rfl | rfl | rfl | rfl | rfl | rfl <;> exact ⟨_, _, rfl, by kernel_rfl⟩
theorem texts19 : ∀ i j : Fin 19, (es19[i.val]?).map (·.2) = (es19[j.val]?).map (·.2) → i = j := by decide
theorem of_laid19 {W : World} (h : laidMetH Tryd.prog ([("math/bits.deBruijn32tab", Rows.laid_math_bits_deBruijn32tab), ("math/bits.deBruijn64tab", Rows.laid_math_bits_deBruijn64tab), ("internal/strconv.uint64pow10", Rows.laid_internal_strconv_uint64pow10)] ++ (es19.map (errItem "*errors.errorString") ++ [])) W) : ∃ E Q, Errs [allOf W] E Q ∧ GTab [allOf W] := by
  rw [MakeChecks.laidMetH_plain _ _ _ (by kernel_rfl)] at h
  obtain ⟨ps, hq, _, hrows⟩ := h
  obtain ⟨g0, t0, cs0, fuel0, p0, q0, hg0, ht0, hv0, hd0, hq, rfl⟩ := hq
  obtain ⟨g1, t1, cs1, fuel1, p1, q1, hg1, ht1, hv1, hd1, hq, rfl⟩ := hq
  obtain ⟨g2, t2, cs2, fuel2, p2, q2, hg2, ht2, hv2, hd2, hq, rfl⟩ := hq
  have hgg2 : Tryd.prog.globalNamed "internal/strconv.uint64pow10" = some 19 := by kernel_rfl
  obtain rfl := Option.some.inj (hgg2.symm.trans hg2)
  obtain rfl := Option.some.inj ((show (Tryd.prog.globals[19]?).map (·.type) = some 97 by kernel_rfl).symm.trans ht2)
  obtain ⟨T2, fz2, hm2⟩ := mem_of_var hgg2 hv2
  have hc2 := flat_trod 5 _ _ _ _ (by kernel_rfl) hd2
  have hpow : GTab [allOf W] := ⟨T2, fz2, by
    have e : cs2 = (Lib.pow10Tab.map fun z => Value.int .u64 z).toArray := by
      rw [← Array.toArray_toList (xs := cs2), hc2]
      rfl
    rw [← e]; exact hm2⟩
  obtain ⟨A, q, _, hq, _, hall⟩ := errs_laid errT es19 _ _ (by kernel_rfl) hq (fun b off hm => hrows b off (List.mem_append_right _ (List.mem_append_right _ (List.mem_append_right _ hm))))
  refine ⟨fun n => .iface 106 (.pointer (some (A.getD (n - 1) ⟨0, 0, none⟩))), fun n => A.getD (n - 1) ⟨0, 0, none⟩, ⟨fun n h0 h1 => ?_, fun n h0 h1 => ?_, fun n m h0 h1 k0 k1 he => ?_⟩, hpow⟩
  · obtain ⟨nm, txt, hn, hg⟩ := names19 h0 h1
    exact gerr_at (hall _ _ _ hn) hg
  · obtain ⟨nm, txt, hn, hg⟩ := names19 h0 h1
    exact (errAt_at (hall _ _ _ hn)).1
  · obtain ⟨nm, txt, hn, _⟩ := names19 h0 h1
    obtain ⟨nm', txt', hn', _⟩ := names19 k0 k1
    obtain ⟨_, s, hs1, hs2⟩ := errAt_at (hall _ _ _ hn)
    obtain ⟨_, s', hs1', hs2'⟩ := errAt_at (hall _ _ _ hn')
    rw [← he, hs1] at hs1'
    cases hs1'
    have := texts19 ⟨n - 1, by omega⟩ ⟨m - 1, by omega⟩ (by simp only [hn, hn']; rw [← hs2, ← hs2']; rfl)
    simp only [Fin.mk.injEq] at this
    omega
theorem of_laid5 {W : World} (h : laidMetH Tryd.prog ([("math/bits.deBruijn32tab", Rows.laid_math_bits_deBruijn32tab), ("math/bits.deBruijn64tab", Rows.laid_math_bits_deBruijn64tab), ("internal/strconv.uint64pow10", Rows.laid_internal_strconv_uint64pow10)] ++ (es3.map (errItem "*errors.errorString") ++ [])) W) : ∃ E Q, EQ [allOf W] E Q ∧ GTab [allOf W] := by
  rw [MakeChecks.laidMetH_plain _ _ _ (by kernel_rfl)] at h
  obtain ⟨ps, hq, _, hrows⟩ := h
  obtain ⟨g0, t0, cs0, fuel0, p0, q0, hg0, ht0, hv0, hd0, hq, rfl⟩ := hq
  obtain ⟨g1, t1, cs1, fuel1, p1, q1, hg1, ht1, hv1, hd1, hq, rfl⟩ := hq
  obtain ⟨g2, t2, cs2, fuel2, p2, q2, hg2, ht2, hv2, hd2, hq, rfl⟩ := hq
  have hgg2 : Tryd.prog.globalNamed "internal/strconv.uint64pow10" = some 19 := by kernel_rfl
  obtain rfl := Option.some.inj (hgg2.symm.trans hg2)
  obtain rfl := Option.some.inj ((show (Tryd.prog.globals[19]?).map (·.type) = some 97 by kernel_rfl).symm.trans ht2)
  obtain ⟨T2, fz2, hm2⟩ := mem_of_var hgg2 hv2
  have hc2 := flat_trod 5 _ _ _ _ (by kernel_rfl) hd2
  have hpow : GTab [allOf W] := ⟨T2, fz2, by
    have e : cs2 = (Lib.pow10Tab.map fun z => Value.int .u64 z).toArray := by
      rw [← Array.toArray_toList (xs := cs2), hc2]
      rfl
    rw [← e]; exact hm2⟩
  obtain ⟨A, q, _, hq, _, hall⟩ := errs_laid errT es3 _ _ (by kernel_rfl) hq (fun b off hm => hrows b off (List.mem_append_right _ (List.mem_append_right _ (List.mem_append_right _ hm))))
  refine ⟨fun n => .iface 106 (.pointer (some (A.getD (if n = 3 then 0 else if n = 6 then 1 else 2) ⟨0, 0, none⟩))), fun n => A.getD (if n = 3 then 0 else if n = 6 then 1 else 2) ⟨0, 0, none⟩,
    ⟨⟨gerr_at (hall 0 _ _ rfl) (by kernel_rfl), gerr_at (hall 1 _ _ rfl) (by kernel_rfl), gerr_at (hall 2 _ _ rfl) (by kernel_rfl)⟩, (errAt_at (hall 1 _ _ rfl)).1, (errAt_at (hall 2 _ _ rfl)).1, fun he => ?_⟩, hpow⟩
  obtain ⟨_, s, hs1, hs2⟩ := errAt_at (hall 1 _ _ rfl)
  obtain ⟨_, s', hs1', hs2'⟩ := errAt_at (hall 2 _ _ rfl)
  have he2 : A.getD 1 ⟨0, 0, none⟩ = A.getD 2 ⟨0, 0, none⟩ := he
  rw [← he2, hs1] at hs1'
  cases hs1'
  exact absurd (hs2.symm.trans hs2') (by decide)
end Go.Proofs.YtinbeaaloailnaaDoor
