/- What the rows of Read give. -/
import Derived.Test.YtgkmmbdlclecnaaDoorRw
import Derived.Test.YtgkmmbdlclecnaaDoorLr
import Derived.Lay
namespace Go.Proofs.YtgkmmbdlclecnaaDoor
open Go Go.Eng
set_option maxRecDepth 100000
set_option linter.unusedVariables false
set_option linter.unusedSimpArgs false
open Go.ChangeShapes Go.WideShapes Go.ChangeAt Go.RowKit
theorem int_of_shape {w : World} {g : Nat} {t : TypeId} (h : w.ShapedOpen Tryd.prog) (hg : g < Tryd.prog.globals.size) (h0 : ((begin Tryd.prog (fun _ _ => 0) default).world.heap[g]?).bind Obj.row? = some (#[.int .i64 0], t))
    (hb : Tryd.prog.buildable t = true) (hc : Tryd.prog.cellTypes Tryd.prog.depth t = some [t]) (hu : Tryd.prog.underlying t = some (.int .i64)) : ∃ m, GVal [allOf w] g (.int .i64 m) := by
  obtain ⟨cs, hh, hs, hr⟩ := h.1 g _ t hg h0
  obtain ⟨ts, hts, _, hall⟩ := hr hb
  rw [hc] at hts
  cases hts
  have h1 : 0 < cs.size := by simp at hs; omega
  obtain ⟨u, hu', hok⟩ := hall 0 cs[0] (by simp [h1])
  have : u = t := by simpa using hu'.symm
  subst this
  unfold Cell.ok at hok
  rw [hu] at hok
  have hm : (g, Obj.cells cs u (0, 0)) ∈ [allOf w].flatten := by simpa using allOf_mem hh
  cases hv : cs[0] <;> rw [hv] at hok <;> first | (simp at hok; done) | skip
  · rename_i k z
    simp at hok
    obtain ⟨rfl, _⟩ := hok
    exact ⟨z, cs, u, (0, 0), hm, by rw [Array.getElem?_eq_getElem h1, hv]⟩
theorem maxLen_of {W : World} (h : W.ShapedOpen Tryd.prog) : ∃ m, GVal [allOf W] 20 (.int .i64 m) := int_of_shape (t := 3) h (by decide +kernel) (by kernel_rfl) (by kernel_rfl) (by kernel_rfl) (by kernel_rfl)
theorem wit {H : Type} {enc : TypeId × Value → H} {os : Os} {f : FuncId} {fn : Func} {s : OpenSpec} {conds : List PathCond} {apart : Bool} {laid : List (String × DataW Unit)} (w0 : World) (args : Array Value) (hos : w0.os = os) (hsh : (w0.forCall (fun _ _ => 0) ⟨#[], args, []⟩).Shaped Tryd.checked.prog)
    (hok : Input.okWideB Tryd.checked.prog (w0.forCall (fun _ _ => 0) ⟨#[], args, []⟩) f ⟨#[], args, []⟩ = true) (hrow : s.preRow enc Tryd.checked.prog fn conds apart laid (w0.forCall (fun _ _ => 0) ⟨#[], args, []⟩).memory args) :
    ∃ (w : World) (tape : Tape) (i : Input), w.os = os ∧ (w.forCall tape i).Shaped Tryd.checked.prog ∧ i.vars = [] ∧ Input.okWide Tryd.checked.prog (w.forCall tape i) .any w.heap.size f i ∧
      s.preRow enc Tryd.checked.prog fn conds apart laid (w.forCall tape i).memory i.args ∧ ({} : Assume).holds Tryd.checked.prog (lone (Frame.enter Tryd.checked.prog f i.args .normal) [] (w.forCall tape i)) :=
  ⟨w0, fun _ _ => 0, ⟨#[], args, []⟩, hos, hsh, (Input.okWide_of_okWideB (base := 0) hok).1, (Input.okWide_of_okWideB hok).2, hrow, by
    simp only [Assume.holds]
    exact ⟨by simp, by simp, (fun h => by cases h), by simp, by simp⟩⟩
def es21 : List (String × List UInt8) := [("strconv.ErrRange", [118, 97, 108, 117, 101, 32, 111, 117, 116, 32, 111, 102, 32, 114, 97, 110, 103, 101]), ("strconv.ErrSyntax", [105, 110, 118, 97, 108, 105, 100, 32, 115, 121, 110, 116, 97, 120]), ("timbre/api.ErrShort", [116, 105, 109, 98, 114, 101, 58, 32, 116, 111, 111, 32, 115, 104, 111, 114, 116]), ("timbre/api.ErrVarint", [116, 105, 109, 98, 114, 101, 58, 32, 118, 97, 114, 105, 110, 116]), ("timbre/api.ErrLimit", [116, 105, 109, 98, 114, 101, 58, 32, 108, 105, 109, 105, 116]), ("timbre/api.ErrTail", [116, 105, 109, 98, 114, 101, 58, 32, 116, 97, 105, 108]), ("timbre/api.ErrRange", [116, 105, 109, 98, 114, 101, 58, 32, 114, 97, 110, 103, 101]), ("timbre/api.ErrText", [116, 105, 109, 98, 114, 101, 58, 32, 116, 101, 120, 116]), ("timbre/api.ErrLength", [116, 105, 109, 98, 114, 101, 58, 32, 108, 101, 110, 103, 116, 104]), ("timbre/api.ErrOrder", [116, 105, 109, 98, 114, 101, 58, 32, 111, 114, 100, 101, 114]), ("timbre/api.ErrProgram", [116, 105, 109, 98, 114, 101, 58, 32, 112, 114, 111, 103, 114, 97, 109]), ("timbre/api.ErrState", [116, 105, 109, 98, 114, 101, 58, 32, 115, 116, 97, 116, 101]), ("timbre/api.ErrRoot", [116, 105, 109, 98, 114, 101, 58, 32, 114, 111, 111, 116]), ("timbre/api.ErrPerm", [116, 105, 109, 98, 114, 101, 58, 32, 112, 101, 114, 109, 117, 116, 97, 116, 105, 111, 110]), ("timbre/api.ErrNumber", [116, 105, 109, 98, 114, 101, 58, 32, 110, 117, 109, 98, 101, 114]), ("timbre/api.ErrWorkers", [116, 105, 109, 98, 114, 101, 58, 32, 119, 111, 114, 107, 101, 114, 115]), ("timbre/api.ErrDone", [116, 105, 109, 98, 114, 101, 58, 32, 100, 111, 110, 101]), ("timbre/api.ErrUnknown", [116, 105, 109, 98, 114, 101, 58, 32, 117, 110, 107, 110, 111, 119, 110]), ("timbre/api.ErrMode", [116, 105, 109, 98, 114, 101, 58, 32, 109, 111, 100, 101]), ("timbre/api.ErrCommand", [116, 105, 109, 98, 114, 101, 58, 32, 99, 111, 109, 109, 97, 110, 100]), ("timbre/api.ErrExact", [116, 105, 109, 98, 114, 101, 58, 32, 101, 120, 97, 99, 116])]
theorem of_laidR {W : World} (hsh : W.ShapedOpen Tryd.prog) (h : laidMetH Tryd.prog ([("math/bits.deBruijn32tab", Rows.laid_math_bits_deBruijn32tab), ("math/bits.deBruijn64tab", Rows.laid_math_bits_deBruijn64tab), ("internal/strconv.uint64pow10", Rows.laid_internal_strconv_uint64pow10), ("unicode/utf8.acceptRanges", Rows.laid_unicode_utf8_acceptRanges)] ++ (es21.map (errItem "*errors.errorString") ++ [("timbre/steps.table", Rows.laid_timbre_steps_table), ("unicode/utf8.first", Rows.laid_unicode_utf8_first)])) W) : ∃ E Q, Errs [allOf W] E Q ∧ SlAt [allOf W] (some ⟨19, 0, none⟩) tableC ∧ GTab [allOf W] ∧ RdG [allOf W] := by
  rw [MakeChecks.laidMetH_plain _ _ _ (by kernel_rfl)] at h
  obtain ⟨ps, hq, _, hrows⟩ := h
  obtain ⟨g0, t0, cs0, fuel0, p0, q0, hg0, ht0, hv0, hd0, hq, rfl⟩ := hq
  obtain ⟨g1, t1, cs1, fuel1, p1, q1, hg1, ht1, hv1, hd1, hq, rfl⟩ := hq
  obtain ⟨g2, t2, cs2, fuel2, p2, q2, hg2, ht2, hv2, hd2, hq, rfl⟩ := hq
  obtain ⟨g3, t3, cs3, fuel3, p3, q3, hg3, ht3, hv3, hd3, hq, rfl⟩ := hq
  have hgg2 : Tryd.prog.globalNamed "internal/strconv.uint64pow10" = some 21 := by kernel_rfl
  obtain rfl := Option.some.inj (hgg2.symm.trans hg2)
  obtain rfl := Option.some.inj ((show (Tryd.prog.globals[21]?).map (·.type) = some 115 by kernel_rfl).symm.trans ht2)
  obtain ⟨T2, fz2, hm2⟩ := mem_of_var hgg2 hv2
  have hc2 := flat_trod 5 _ _ _ _ (by kernel_rfl) hd2
  have hpow : GTab [allOf W] := ⟨T2, fz2, by
    have e : cs2 = (Lib.pow10Tab.map fun z => Value.int .u64 z).toArray := by
      rw [← Array.toArray_toList (xs := cs2), hc2]
      rfl
    rw [← e]; exact hm2⟩
  obtain ⟨A, q, _, hq, _, hall⟩ := errs_laid errT es21 _ _ (by kernel_rfl) hq (fun b off hm => hrows b off (List.mem_append_right _ (List.mem_append_right _ (List.mem_append_right _ (List.mem_append_right _ hm)))))
  obtain ⟨g5, t5, cs5, fuel5, p5, q5, hg5, ht5, hv5, hd5, hq, _⟩ := hq
  have hgg5 : Tryd.prog.globalNamed "timbre/steps.table" = some 19 := by kernel_rfl
  obtain rfl := Option.some.inj (hgg5.symm.trans hg5)
  obtain rfl := Option.some.inj ((show (Tryd.prog.globals[19]?).map (·.type) = some 91 by kernel_rfl).symm.trans ht5)
  have hs5 := slAt_of_var hgg5 hv5
  rw [flat_trod 5 _ _ _ _ (by kernel_rfl) hd5] at hs5
  have hrd : RdG [allOf W] := ⟨maxLen_of hsh, ⟨_, gerr_at (hall 1 _ _ rfl) (by kernel_rfl)⟩, ⟨_, gerr_at (hall 0 _ _ rfl) (by kernel_rfl)⟩⟩
  have n21 : ∀ {n : Nat}, 1 ≤ n → n ≤ 19 → ∃ nm txt, es21[n + 1]? = some (nm, txt) ∧ Program.globalNamed Tryd.prog nm = some ((errG[n]?).getD 0) := fun {n} h0 h1 => by
    obtain ⟨nm, txt, h2, h3⟩ := names19 h0 h1
    refine ⟨nm, txt, ?_, h3⟩
    obtain ⟨m, rfl⟩ : ∃ m, n = m + 1 := ⟨n - 1, by omega⟩
    exact h2
  refine ⟨fun n => .iface 143 (.pointer (some (A.getD (n + 1) ⟨0, 0, none⟩))), fun n => A.getD (n + 1) ⟨0, 0, none⟩, ⟨fun n h0 h1 => ?_, fun n h0 h1 => ?_, fun n m h0 h1 k0 k1 he => ?_⟩, hs5, hpow, hrd⟩
  · obtain ⟨nm, txt, hn, hg⟩ := n21 h0 h1
    exact gerr_at (hall _ _ _ hn) hg
  · obtain ⟨nm, txt, hn, hg⟩ := n21 h0 h1
    exact (errAt_at (hall _ _ _ hn)).1
  · obtain ⟨nm, txt, hn, _⟩ := n21 h0 h1
    obtain ⟨nm', txt', hn', _⟩ := n21 k0 k1
    obtain ⟨_, s, hs1, hs2⟩ := errAt_at (hall _ _ _ hn)
    obtain ⟨_, s', hs1', hs2'⟩ := errAt_at (hall _ _ _ hn')
    rw [← he, hs1] at hs1'
    cases hs1'
    obtain ⟨m1, rfl⟩ : ∃ m, n = m + 1 := ⟨n - 1, by omega⟩
    obtain ⟨m2, rfl⟩ : ∃ k, m = k + 1 := ⟨m - 1, by omega⟩
    have e1 : es19[m1]? = some (nm, txt) := hn
    have e2 : es19[m2]? = some (nm', txt') := hn'
    have := texts19 ⟨m1, by omega⟩ ⟨m2, by omega⟩ (by simp only [e1, e2]; rw [← hs2, ← hs2']; rfl)
    simp only [Fin.mk.injEq] at this
    omega
end Go.Proofs.YtgkmmbdlclecnaaDoor
