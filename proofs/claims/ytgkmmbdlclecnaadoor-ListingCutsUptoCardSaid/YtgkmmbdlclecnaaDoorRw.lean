/- What the rows give: the listed variables, the witness. -/
import Derived.Test.YtgkmmbdlclecnaaDoorLl
import Derived.Test.YtgkmmbdlclecnaaDoorCards
import Derived.Test.YtgkmmbdlclecnaaDoorTie
import Derived.LaidMore
import Derived.MakeChecks
import Derived.LaidHandle
namespace Go.Proofs.YtgkmmbdlclecnaaDoor
open Go Go.Eng
set_option maxRecDepth 100000
set_option linter.unusedVariables false
set_option linter.unusedSimpArgs false
open Go.ChangeShapes Go.WideShapes Go.ChangeAt Go.RowKit
theorem own : ownKnob Tryd.prog.godebug = none := by kernel_rfl
theorem laidOut : laidOutB Tryd.prog = true := by kernel_rfl
theorem errRow (u : TypeId) (h : Tryd.prog.typeName? 3 u = some "*errors.errorString") : u = 143 :=
  typeName_ptr_named (nm := "errors.errorString") (by kernel_rfl) (by kernel_rfl) (by decide) u h
theorem errT : ErrType Tryd.prog "*errors.errorString" 29 143 145 9 := ErrType.of (by kernel_rfl) errRow
theorem mem_of_var {W : World} {n : String} {g : Nat} {cs : Array Value} (hg : Tryd.prog.globalNamed n = some g) (hv : W.var? Tryd.prog n = some cs) : ∃ T fz, (g, Obj.cells cs T fz) ∈ [allOf W].flatten := by
  unfold World.var? at hv
  rw [hg] at hv
  simp only [Option.bind_some] at hv
  split at hv
  · rename_i c t fz hb
    cases hv
    exact ⟨t, fz, by simpa using allOf_mem hb⟩
  · cases hv
def es19 : List (String × List UInt8) := [("timbre/api.ErrShort", [116, 105, 109, 98, 114, 101, 58, 32, 116, 111, 111, 32, 115, 104, 111, 114, 116]), ("timbre/api.ErrVarint", [116, 105, 109, 98, 114, 101, 58, 32, 118, 97, 114, 105, 110, 116]), ("timbre/api.ErrLimit", [116, 105, 109, 98, 114, 101, 58, 32, 108, 105, 109, 105, 116]), ("timbre/api.ErrTail", [116, 105, 109, 98, 114, 101, 58, 32, 116, 97, 105, 108]), ("timbre/api.ErrRange", [116, 105, 109, 98, 114, 101, 58, 32, 114, 97, 110, 103, 101]), ("timbre/api.ErrText", [116, 105, 109, 98, 114, 101, 58, 32, 116, 101, 120, 116]), ("timbre/api.ErrLength", [116, 105, 109, 98, 114, 101, 58, 32, 108, 101, 110, 103, 116, 104]), ("timbre/api.ErrOrder", [116, 105, 109, 98, 114, 101, 58, 32, 111, 114, 100, 101, 114]), ("timbre/api.ErrProgram", [116, 105, 109, 98, 114, 101, 58, 32, 112, 114, 111, 103, 114, 97, 109]), ("timbre/api.ErrState", [116, 105, 109, 98, 114, 101, 58, 32, 115, 116, 97, 116, 101]), ("timbre/api.ErrRoot", [116, 105, 109, 98, 114, 101, 58, 32, 114, 111, 111, 116]), ("timbre/api.ErrPerm", [116, 105, 109, 98, 114, 101, 58, 32, 112, 101, 114, 109, 117, 116, 97, 116, 105, 111, 110]), ("timbre/api.ErrNumber", [116, 105, 109, 98, 114, 101, 58, 32, 110, 117, 109, 98, 101, 114]), ("timbre/api.ErrWorkers", [116, 105, 109, 98, 114, 101, 58, 32, 119, 111, 114, 107, 101, 114, 115]), ("timbre/api.ErrDone", [116, 105, 109, 98, 114, 101, 58, 32, 100, 111, 110, 101]), ("timbre/api.ErrUnknown", [116, 105, 109, 98, 114, 101, 58, 32, 117, 110, 107, 110, 111, 119, 110]), ("timbre/api.ErrMode", [116, 105, 109, 98, 114, 101, 58, 32, 109, 111, 100, 101]), ("timbre/api.ErrCommand", [116, 105, 109, 98, 114, 101, 58, 32, 99, 111, 109, 109, 97, 110, 100]), ("timbre/api.ErrExact", [116, 105, 109, 98, 114, 101, 58, 32, 101, 120, 97, 99, 116])]
theorem names19 {n : Nat} (h0 : 1 ≤ n) (h1 : n ≤ 19) : ∃ nm txt, es19[n - 1]? = some (nm, txt) ∧ Tryd.prog.globalNamed nm = some ((errG[n]?).getD 0) := by
  have : n = 1 ∨ n = 2 ∨ n = 3 ∨ n = 4 ∨ n = 5 ∨ n = 6 ∨ n = 7 ∨ n = 8 ∨ n = 9 ∨ n = 10 ∨ n = 11 ∨ n = 12 ∨ n = 13 ∨ n = 14 ∨ n = 15 ∨ n = 16 ∨ n = 17 ∨ n = 18 ∨ n = 19 := by omega
  rcases this with rfl | rfl | rfl | rfl | rfl | rfl | rfl | rfl | rfl | rfl | rfl | rfl | rfl | rfl | rfl | rfl | rfl | rfl | rfl <;> exact ⟨_, _, rfl, by kernel_rfl⟩
theorem texts19 : ∀ i j : Fin 19, (es19[i.val]?).map (·.2) = (es19[j.val]?).map (·.2) → i = j := by decide
theorem of_laid19 {W : World} (h : laidMetH Tryd.prog ([("math/bits.deBruijn32tab", Rows.laid_math_bits_deBruijn32tab), ("math/bits.deBruijn64tab", Rows.laid_math_bits_deBruijn64tab), ("internal/strconv.uint64pow10", Rows.laid_internal_strconv_uint64pow10)] ++ (es19.map (errItem "*errors.errorString") ++ [("timbre/steps.table", Rows.laid_timbre_steps_table)])) W) : ∃ E Q, Errs [allOf W] E Q ∧ SlAt [allOf W] (some ⟨19, 0, none⟩) tableC ∧ GTab [allOf W] := by
  rw [MakeChecks.laidMetH_plain _ _ _ (by kernel_rfl)] at h
  obtain ⟨ps, hq, _, hrows⟩ := h
  obtain ⟨g0, t0, cs0, fuel0, p0, q0, hg0, ht0, hv0, hd0, hq, rfl⟩ := hq
  obtain ⟨g1, t1, cs1, fuel1, p1, q1, hg1, ht1, hv1, hd1, hq, rfl⟩ := hq
  obtain ⟨g2, t2, cs2, fuel2, p2, q2, hg2, ht2, hv2, hd2, hq, rfl⟩ := hq
  have hgg2 : Tryd.prog.globalNamed "internal/strconv.uint64pow10" = some 21 := by kernel_rfl
  obtain rfl := Option.some.inj (hgg2.symm.trans hg2)
  obtain rfl := Option.some.inj ((show (Tryd.prog.globals[21]?).map (·.type) = some 115 by kernel_rfl).symm.trans ht2)
  obtain ⟨T2, fz2, hm2⟩ := mem_of_var hgg2 hv2
  have hc2 := flat_trod 5 _ _ _ _ (by kernel_rfl) hd2
  have hpow : GTab [allOf W] := ⟨T2, fz2, by
    have e : cs2 = (Lib.pow10Tab.map fun z => Value.int .u64 z).toArray := by
      rw [← Array.toArray_toList (xs := cs2), hc2]
      rfl
    rw [← e]; exact hm2⟩
  obtain ⟨A, q, _, hq, _, hall⟩ := errs_laid errT es19 _ _ (by kernel_rfl) hq (fun b off hm => hrows b off (List.mem_append_right _ (List.mem_append_right _ (List.mem_append_right _ hm))))
  obtain ⟨g5, t5, cs5, fuel5, p5, q5, hg5, ht5, hv5, hd5, hq, _⟩ := hq
  have hgg5 : Tryd.prog.globalNamed "timbre/steps.table" = some 19 := by kernel_rfl
  obtain rfl := Option.some.inj (hgg5.symm.trans hg5)
  obtain rfl := Option.some.inj ((show (Tryd.prog.globals[19]?).map (·.type) = some 91 by kernel_rfl).symm.trans ht5)
  have hs5 := slAt_of_var hgg5 hv5
  rw [flat_trod 5 _ _ _ _ (by kernel_rfl) hd5] at hs5
  refine ⟨fun n => .iface 143 (.pointer (some (A.getD (n - 1) ⟨0, 0, none⟩))), fun n => A.getD (n - 1) ⟨0, 0, none⟩, ⟨fun n h0 h1 => ?_, fun n h0 h1 => ?_, fun n m h0 h1 k0 k1 he => ?_⟩, hs5, hpow⟩
  · obtain ⟨nm, txt, hn, hg⟩ := names19 h0 h1
    exact gerr_at (hall _ _ _ hn) hg
  · obtain ⟨nm, txt, hn, hg⟩ := names19 h0 h1
    exact (errAt_at (hall _ _ _ hn)).1
  · obtain ⟨nm, txt, hn, _⟩ := names19 h0 h1
    obtain ⟨nm', txt', hn', _⟩ := names19 k0 k1
    obtain ⟨_, s, hs1, hs2⟩ := errAt_at (hall _ _ _ hn)
    obtain ⟨_, s', hs1', hs2'⟩ := errAt_at (hall _ _ _ hn')
    rw [← he, hs1] at hs1'
    cases hs1'
    have := texts19 ⟨n - 1, by omega⟩ ⟨m - 1, by omega⟩ (by simp only [hn, hn']; rw [← hs2, ← hs2']; rfl)
    simp only [Fin.mk.injEq] at this
    omega
variable {H : Type} {enc : TypeId × Value → H} {W : World}
theorem bulk_mem {d : DataW H} {l : List (DataW H)} (h : d ∈ l) : Rows.uptoBulk d ≤ Rows.uptoBulkAll l := by
  induction l with
  | nil => cases h
  | cons x r ih =>
    simp only [Rows.uptoBulkAll]
    rcases List.mem_cons.1 h with e | e
    · subst e; omega
    · have := ih e; omega
theorem bulk_sum (l : List (DataW H)) : Rows.uptoBulkAll l = (l.map Rows.uptoBulk).sum := by
  induction l with
  | nil => rfl
  | cons x r ih => simp [Rows.uptoBulkAll, ih]
theorem bulk_two : ∀ {l : List (DataW H)} {i j : Nat} {a b : DataW H}, i < j → l[i]? = some a → l[j]? = some b → Rows.uptoBulk a + Rows.uptoBulk b ≤ Rows.uptoBulkAll l
  | [], _, _, _, _, _, h, _ => by simp at h
  | x :: l, 0, j + 1, a, b, _, h, h2 => by
    have h : x = a := by simpa using h
    subst h
    have := bulk_mem (List.mem_of_getElem? (show l[j]? = some b by simpa using h2))
    simp only [Rows.uptoBulkAll]; omega
  | x :: l, i + 1, j + 1, a, b, hij, h, h2 => by
    have := bulk_two (l := l) (i := i) (j := j) (by omega) (by simpa using h) (by simpa using h2)
    simp only [Rows.uptoBulkAll]; omega
theorem bulk_pos (d : DataW H) : 1 ≤ Rows.uptoBulk d := by
  cases d with
  | lit l => cases l <;> simp [Rows.uptoBulk]
  | nil => simp [Rows.uptoBulk]
  | ptr d => simp [Rows.uptoBulk]
  | slice elems spare => simp [Rows.uptoBulk]
  | agg parts => simp [Rows.uptoBulk]
  | iface t d => simp [Rows.uptoBulk]
  | map entries => simp [Rows.uptoBulk]
  | held h => simp [Rows.uptoBulk]
theorem bulk_len (l : List (DataW H)) : l.length ≤ Rows.uptoBulkAll l := by
  induction l with
  | nil => simp [Rows.uptoBulkAll]
  | cons x r ih => have := bulk_pos x; simp only [Rows.uptoBulkAll, List.length_cons]; omega
theorem bulk_slice {es sp : List (DataW H)} : es.length ≤ Rows.uptoBulk (.slice es sp) := by
  have := bulk_len es
  simp only [Rows.uptoBulk]; omega
theorem bulk_small {l : List (DataW H)} (h : Rows.uptoSmall H l = true) : Rows.uptoBulkAll l ≤ 1048576 := of_decide_eq_true h
theorem slice_small {ds : List (DataW H)} {d : DataW H} {n : Nat} (hd : d ∈ ds) (hk : Rows.uptoBulkAll ds ≤ 1048576) (h : n = 0 ∨ ∃ es sp, d = .slice es sp ∧ es.length = n) : n ≤ 1048576 := by
  rcases h with h | ⟨es, sp, rfl, he⟩
  · omega
  · have h1 := bulk_mem hd
    have h3 := bulk_slice (es := es) (sp := sp)
    omega
theorem slice_cell {t e : TypeId} {fuel : Nat} {c : Value} {x : DataW H × List MemPlace} (ht : Program.underlying Tryd.prog t = some (.slice e)) (h : DataW.trod enc Tryd.prog W 0 (fun _ => true) true fuel t [c] = some x) : ∃ p n k, c = .slice p n k := by
  rcases DataW.trod_slice ht h with ⟨h0, _⟩ | ⟨a, len, cap, _, _, _, _, hcs, _⟩
  · exact ⟨_, _, _, by simpa using h0⟩
  · exact ⟨_, _, _, by simpa using hcs⟩

theorem list7 {l : List Value} (h : l.length = 7) : ∃ a b c d e f g, l = [a, b, c, d, e, f, g] := by
  match l, h with
  | [a, b, c, d, e, f, g], _ => exact ⟨a, b, c, d, e, f, g, rfl⟩
theorem list5 {l : List Value} (h : l.length = 5) : ∃ a b c d e, l = [a, b, c, d, e] := by
  match l, h with
  | [a, b, c, d, e], _ => exact ⟨a, b, c, d, e, rfl⟩
theorem read_stp {fuel : Nat} {cs : List Value} {y : DataW H × List MemPlace} (h : DataW.trod enc Tryd.prog W 0 (fun _ => true) true fuel 26 cs = some y) : ∃ s : Stp, cs = s.v ∧ s.Ok := by
  obtain ⟨m0, y0, _, h0, _, _, hl⟩ := rd_field (i := 0) (u := 3) (off := 0) (n := 1) h (by kernel_rfl)
  obtain ⟨m1, y1, _, h1, _, _, _⟩ := rd_field (i := 1) (u := 3) (off := 1) (n := 1) h (by kernel_rfl)
  obtain ⟨m2, y2, _, h2, _, _, _⟩ := rd_field (i := 2) (u := 3) (off := 2) (n := 1) h (by kernel_rfl)
  obtain ⟨m3, y3, _, h3, _, _, _⟩ := rd_field (i := 3) (u := 3) (off := 3) (n := 1) h (by kernel_rfl)
  obtain ⟨m4, y4, _, h4, _, _, _⟩ := rd_field (i := 4) (u := 3) (off := 4) (n := 1) h (by kernel_rfl)
  obtain ⟨m5, y5, _, h5, _, _, _⟩ := rd_field (i := 5) (u := 3) (off := 5) (n := 1) h (by kernel_rfl)
  obtain ⟨m6, y6, _, h6, _, _, _⟩ := rd_field (i := 6) (u := 3) (off := 6) (n := 1) h (by kernel_rfl)
  obtain ⟨c0, c1, c2, c3, c4, c5, c6, rfl⟩ := list7 (hl.trans (by kernel_rfl))
  have hk : Program.underlying Tryd.prog 3 = some (.int .i64) := by kernel_rfl
  obtain ⟨z0, rfl, w0⟩ := rd_int hk h0
  obtain ⟨z1, rfl, w1⟩ := rd_int hk h1
  obtain ⟨z2, rfl, w2⟩ := rd_int hk h2
  obtain ⟨z3, rfl, w3⟩ := rd_int hk h3
  obtain ⟨z4, rfl, w4⟩ := rd_int hk h4
  obtain ⟨z5, rfl, w5⟩ := rd_int hk h5
  obtain ⟨z6, rfl, w6⟩ := rd_int hk h6
  exact ⟨⟨z0, z1, z2, z3, z4, z5, z6⟩, rfl, ⟨wf_i64 w0, wf_i64 w1, wf_i64 w2, wf_i64 w3, wf_i64 w4, wf_i64 w5, wf_i64 w6⟩⟩
theorem read_steps {fuel n c : Nat} {p : Option Addr} {x : DataW H × List MemPlace} (h : DataW.trod enc Tryd.prog W 0 (fun _ => true) true fuel 22 [.slice p n c] = some x) :
    ∃ l : List Stp, l.length = n ∧ SlAt [allOf W] p (stepsV l) ∧ (∀ s ∈ l, s.Ok) ∧ n ≤ 9223372036854775807 ∧ (n = 0 ∨ ∃ es sp, x.1 = .slice es sp ∧ es.length = n) :=
  rd_slice (e := 26) (sz := 7) (by kernel_rfl) h Stp.v Stp.Ok (by kernel_rfl) (by decide) (fun _ => rfl) (fun _ _ _ h => read_stp h)
theorem read_prg {fuel : Nat} {cs : List Value} {x : DataW H × List MemPlace} (h : DataW.trod enc Tryd.prog W 0 (fun _ => true) true fuel 24 cs = some x) :
    ∃ (p : Prg) (pp : Option Addr) (pc : Nat), cs = prgV p pp p.steps.length pc ∧ SlAt [allOf W] pp (stepsV p.steps) ∧ (∀ s ∈ p.steps, s.Ok) ∧ i64ok p.len ∧ i64ok p.cells ∧ i64ok p.inn ∧ i64ok p.out ∧ p.steps.length ≤ 9223372036854775807 ∧
      (p.steps.length = 0 ∨ ∃ ds es sp, x.1 = .agg ds ∧ ds[4]? = some (.slice es sp) ∧ es.length = p.steps.length) := by
  obtain ⟨m0, y0, _, h0, _, _, hl⟩ := rd_field (i := 0) (u := 3) (off := 0) (n := 1) h (by kernel_rfl)
  obtain ⟨m1, y1, _, h1, _, _, _⟩ := rd_field (i := 1) (u := 3) (off := 1) (n := 1) h (by kernel_rfl)
  obtain ⟨m2, y2, _, h2, _, _, _⟩ := rd_field (i := 2) (u := 3) (off := 2) (n := 1) h (by kernel_rfl)
  obtain ⟨m3, y3, _, h3, _, _, _⟩ := rd_field (i := 3) (u := 3) (off := 3) (n := 1) h (by kernel_rfl)
  obtain ⟨m4, y4, ds, h4, hx, hd, _⟩ := rd_field (i := 4) (u := 22) (off := 4) (n := 1) h (by kernel_rfl)
  obtain ⟨c0, c1, c2, c3, c4, rfl⟩ := list5 (hl.trans (by kernel_rfl))
  have hk : Program.underlying Tryd.prog 3 = some (.int .i64) := by kernel_rfl
  obtain ⟨z0, rfl, w0⟩ := rd_int hk h0
  obtain ⟨z1, rfl, w1⟩ := rd_int hk h1
  obtain ⟨z2, rfl, w2⟩ := rd_int hk h2
  obtain ⟨z3, rfl, w3⟩ := rd_int hk h3
  obtain ⟨pp, n, pc, rfl⟩ := slice_cell (e := 26) (by kernel_rfl) h4
  obtain ⟨l, rfl, hsl, hok, hn, hb⟩ := read_steps h4
  refine ⟨⟨z0, z1, z2, z3, l⟩, pp, pc, rfl, hsl, hok, wf_i64 w0, wf_i64 w1, wf_i64 w2, wf_i64 w3, hn, ?_⟩
  rcases hb with hb | ⟨es, sp, he, hes⟩
  · exact .inl hb
  · exact .inr ⟨ds, es, sp, hx, by rw [hd, he], hes⟩
theorem prg_small {ds : List (DataW H)} {d : DataW H} {p : Prg} (hd : d ∈ ds) (hk : Rows.uptoBulkAll ds ≤ 1048576)
    (h : p.steps.length = 0 ∨ ∃ ps es sp, d = .agg ps ∧ ps[4]? = some (.slice es sp) ∧ es.length = p.steps.length) : p.steps.length ≤ 1048576 := by
  rcases h with h | ⟨ps, es, sp, rfl, h4, he⟩
  · omega
  · have h1 := bulk_mem hd
    have h2 := bulk_mem (List.mem_of_getElem? h4)
    have h3 := bulk_slice (es := es) (sp := sp)
    simp only [Rows.uptoBulk] at h1
    omega
theorem agg_cells {v : Value} {fs : Array Field} {t : TypeId} (hu : Program.underlying Tryd.prog t = some (.struct fs)) (h : Value.okWide Tryd.prog W .any 0 t v) : ∃ l : List Value, v = .agg l.toArray := by
  obtain ⟨cs, rfl, _⟩ := okWide_struct hu h
  exact ⟨cs.toList, by simp⟩
end Go.Proofs.YtgkmmbdlclecnaaDoor
