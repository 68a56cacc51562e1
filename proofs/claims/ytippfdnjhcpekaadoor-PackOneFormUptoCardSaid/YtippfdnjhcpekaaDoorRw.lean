/- What the rows give: the listed variables, the witness. -/
import Derived.Test.YtippfdnjhcpekaaDoorLw6
import Derived.Test.YtippfdnjhcpekaaDoorCards
import Derived.Test.YtippfdnjhcpekaaDoorTie
import Derived.LaidMore
import Derived.MakeChecks
import Derived.LaidHandle
namespace Go.Proofs.YtippfdnjhcpekaaDoor
open Go Go.Eng
set_option maxRecDepth 100000
set_option linter.unusedVariables false
set_option linter.unusedSimpArgs false
open Go.ChangeShapes Go.WideShapes Go.ChangeAt Go.RowKit
theorem own : ownKnob Tryd.prog.godebug = none := by kernel_rfl
theorem laidOut : laidOutB Tryd.prog = true := by kernel_rfl
theorem errRow (u : TypeId) (h : Tryd.prog.typeName? 3 u = some "*errors.errorString") : u = 163 :=
  typeName_ptr_named (nm := "errors.errorString") (by kernel_rfl) (by kernel_rfl) (by decide) u h
theorem errT : ErrType Tryd.prog "*errors.errorString" 40 163 179 9 := ErrType.of (by kernel_rfl) errRow
def es19 : List (String × List UInt8) := [("timbre/api.ErrShort", [116, 105, 109, 98, 114, 101, 58, 32, 116, 111, 111, 32, 115, 104, 111, 114, 116]), ("timbre/api.ErrVarint", [116, 105, 109, 98, 114, 101, 58, 32, 118, 97, 114, 105, 110, 116]), ("timbre/api.ErrLimit", [116, 105, 109, 98, 114, 101, 58, 32, 108, 105, 109, 105, 116]), ("timbre/api.ErrTail", [116, 105, 109, 98, 114, 101, 58, 32, 116, 97, 105, 108]), ("timbre/api.ErrRange", [116, 105, 109, 98, 114, 101, 58, 32, 114, 97, 110, 103, 101]), ("timbre/api.ErrText", [116, 105, 109, 98, 114, 101, 58, 32, 116, 101, 120, 116]), ("timbre/api.ErrLength", [116, 105, 109, 98, 114, 101, 58, 32, 108, 101, 110, 103, 116, 104]), ("timbre/api.ErrOrder", [116, 105, 109, 98, 114, 101, 58, 32, 111, 114, 100, 101, 114]), ("timbre/api.ErrProgram", [116, 105, 109, 98, 114, 101, 58, 32, 112, 114, 111, 103, 114, 97, 109]), ("timbre/api.ErrState", [116, 105, 109, 98, 114, 101, 58, 32, 115, 116, 97, 116, 101]), ("timbre/api.ErrRoot", [116, 105, 109, 98, 114, 101, 58, 32, 114, 111, 111, 116]), ("timbre/api.ErrPerm", [116, 105, 109, 98, 114, 101, 58, 32, 112, 101, 114, 109, 117, 116, 97, 116, 105, 111, 110]), ("timbre/api.ErrNumber", [116, 105, 109, 98, 114, 101, 58, 32, 110, 117, 109, 98, 101, 114]), ("timbre/api.ErrWorkers", [116, 105, 109, 98, 114, 101, 58, 32, 119, 111, 114, 107, 101, 114, 115]), ("timbre/api.ErrDone", [116, 105, 109, 98, 114, 101, 58, 32, 100, 111, 110, 101]), ("timbre/api.ErrUnknown", [116, 105, 109, 98, 114, 101, 58, 32, 117, 110, 107, 110, 111, 119, 110]), ("timbre/api.ErrMode", [116, 105, 109, 98, 114, 101, 58, 32, 109, 111, 100, 101]), ("timbre/api.ErrCommand", [116, 105, 109, 98, 114, 101, 58, 32, 99, 111, 109, 109, 97, 110, 100]), ("timbre/api.ErrExact", [116, 105, 109, 98, 114, 101, 58, 32, 101, 120, 97, 99, 116])]
theorem names19 {n : Nat} (h0 : 1 ≤ n) (h1 : n ≤ 19) : ∃ nm txt, es19[n - 1]? = some (nm, txt) ∧ Tryd.prog.globalNamed nm = some ((errG[n]?).getD 0) := by
  have : n = 1 ∨ n = 2 ∨ n = 3 ∨ n = 4 ∨ n = 5 ∨ n = 6 ∨ n = 7 ∨ n = 8 ∨ n = 9 ∨ n = 10 ∨ n = 11 ∨ n = 12 ∨ n = 13 ∨ n = 14 ∨ n = 15 ∨ n = 16 ∨ n = 17 ∨ n = 18 ∨ n = 19 := by omega
  rcases this with rfl | rfl | rfl | rfl | rfl | rfl | rfl | rfl | rfl | rfl | rfl | rfl | rfl | rfl | rfl | rfl | rfl | rfl | rfl <;> exact ⟨_, _, rfl, by kernel_rfl⟩
theorem texts19 : ∀ i j : Fin 19, (es19[i.val]?).map (·.2) = (es19[j.val]?).map (·.2) → i = j := by decide
theorem of_laid19 {W : World} (h : laidMetH Tryd.prog (es19.map (errItem "*errors.errorString") ++ []) W) : ∃ E Q, Errs [allOf W] E Q := by
  rw [MakeChecks.laidMetH_plain _ _ _ (by kernel_rfl)] at h
  obtain ⟨ps, hv, _, hrows⟩ := h
  obtain ⟨A, q, _, hq, _, hall⟩ := errs_laid errT es19 _ ps (by kernel_rfl) hv hrows
  refine ⟨fun n => .iface 163 (.pointer (some (A.getD (n - 1) ⟨0, 0, none⟩))), fun n => A.getD (n - 1) ⟨0, 0, none⟩, ⟨fun n h0 h1 => ?_, fun n h0 h1 => ?_, fun n m h0 h1 k0 k1 he => ?_⟩⟩
  · obtain ⟨nm, txt, hn, hg⟩ := names19 h0 h1
    exact gerr_at (hall _ _ _ hn) hg
  · obtain ⟨nm, txt, hn, hg⟩ := names19 h0 h1
    exact (errAt_at (hall _ _ _ hn)).1
  · obtain ⟨nm, txt, hn, _⟩ := names19 h0 h1
    obtain ⟨nm', txt', hn', _⟩ := names19 k0 k1
    obtain ⟨_, s, hs1, hs2⟩ := errAt_at (hall _ _ _ hn)
    obtain ⟨_, s', hs1', hs2'⟩ := errAt_at (hall _ _ _ hn')
    rw [← he, hs1] at hs1'
    cases hs1'
    have := texts19 ⟨n - 1, by omega⟩ ⟨m - 1, by omega⟩ (by simp only [hn, hn']; rw [← hs2, ← hs2']; rfl)
    simp only [Fin.mk.injEq] at this
    omega
variable {H : Type} {enc : TypeId × Value → H} {W : World}
theorem bulk_mem {d : DataW H} {l : List (DataW H)} (h : d ∈ l) : Rows.uptoBulk d ≤ Rows.uptoBulkAll l := by
  induction l with
  | nil => cases h
  | cons x r ih =>
    simp only [Rows.uptoBulkAll]
    rcases List.mem_cons.1 h with e | e
    · subst e; omega
    · have := ih e; omega
theorem bulk_sum (l : List (DataW H)) : Rows.uptoBulkAll l = (l.map Rows.uptoBulk).sum := by
  induction l with
  | nil => rfl
  | cons x r ih => simp [Rows.uptoBulkAll, ih]
theorem bulk_two : ∀ {l : List (DataW H)} {i j : Nat} {a b : DataW H}, i < j → l[i]? = some a → l[j]? = some b → Rows.uptoBulk a + Rows.uptoBulk b ≤ Rows.uptoBulkAll l
  | [], _, _, _, _, _, h, _ => by simp at h
  | x :: l, 0, j + 1, a, b, _, h, h2 => by
    have h : x = a := by simpa using h
    subst h
    have := bulk_mem (List.mem_of_getElem? (show l[j]? = some b by simpa using h2))
    simp only [Rows.uptoBulkAll]; omega
  | x :: l, i + 1, j + 1, a, b, hij, h, h2 => by
    have := bulk_two (l := l) (i := i) (j := j) (by omega) (by simpa using h) (by simpa using h2)
    simp only [Rows.uptoBulkAll]; omega
theorem bulk_pos (d : DataW H) : 1 ≤ Rows.uptoBulk d := by
  cases d with
  | lit l => cases l <;> simp [Rows.uptoBulk]
  | nil => simp [Rows.uptoBulk]
  | ptr d => simp [Rows.uptoBulk]
  | slice elems spare => simp [Rows.uptoBulk]
  | agg parts => simp [Rows.uptoBulk]
  | iface t d => simp [Rows.uptoBulk]
  | map entries => simp [Rows.uptoBulk]
  | held h => simp [Rows.uptoBulk]
theorem bulk_len (l : List (DataW H)) : l.length ≤ Rows.uptoBulkAll l := by
  induction l with
  | nil => simp [Rows.uptoBulkAll]
  | cons x r ih => have := bulk_pos x; simp only [Rows.uptoBulkAll, List.length_cons]; omega
theorem bulk_slice {es sp : List (DataW H)} : es.length ≤ Rows.uptoBulk (.slice es sp) := by
  have := bulk_len es
  simp only [Rows.uptoBulk]; omega
theorem bulk_small {l : List (DataW H)} (h : Rows.uptoSmall H l = true) : Rows.uptoBulkAll l ≤ 1048576 := of_decide_eq_true h
theorem slice_small {ds : List (DataW H)} {d : DataW H} {n : Nat} (hd : d ∈ ds) (hk : Rows.uptoBulkAll ds ≤ 1048576) (h : n = 0 ∨ ∃ es sp, d = .slice es sp ∧ es.length = n) : n ≤ 1048576 := by
  rcases h with h | ⟨es, sp, rfl, he⟩
  · omega
  · have h1 := bulk_mem hd
    have h3 := bulk_slice (es := es) (sp := sp)
    omega
theorem slice_cell {t e : TypeId} {fuel : Nat} {c : Value} {x : DataW H × List MemPlace} (ht : Program.underlying Tryd.prog t = some (.slice e)) (h : DataW.trod enc Tryd.prog W 0 (fun _ => true) true fuel t [c] = some x) : ∃ p n k, c = .slice p n k := by
  rcases DataW.trod_slice ht h with ⟨h0, _⟩ | ⟨a, len, cap, _, _, _, _, hcs, _⟩
  · exact ⟨_, _, _, by simpa using h0⟩
  · exact ⟨_, _, _, by simpa using hcs⟩

theorem read_byte {fuel : Nat} {cs : List Value} {y : DataW H × List MemPlace} (h : DataW.trod enc Tryd.prog W 0 (fun _ => true) true fuel 5 cs = some y) : ∃ b : UInt8, cs = [.int .u8 b.toNat] ∧ True := by
  obtain ⟨z, rfl, _, hw⟩ := DataW.trod_int (k := .u8) (by kernel_rfl) h
  have := wf_u8 hw
  refine ⟨z.toNat.toUInt8, ?_, trivial⟩
  have e : ((z.toNat.toUInt8).toNat : Int) = z := by rw [u8n (by omega)]; omega
  rw [e]
theorem bv_flat (l : List UInt8) : (l.map fun b => [Value.int .u8 (b.toNat : Int)]).flatten = bv l := by
  induction l with
  | nil => rfl
  | cons a l ih => simp only [List.map_cons, List.flatten_cons, ih]; rfl
theorem read_bytes {fuel n c : Nat} {p : Option Addr} {x : DataW H × List MemPlace} (h : DataW.trod enc Tryd.prog W 0 (fun _ => true) true fuel 26 [.slice p n c] = some x) :
    ∃ l : List UInt8, l.length = n ∧ SlAt [allOf W] p (bv l) ∧ n ≤ 9223372036854775807 ∧ (n = 0 ∨ ∃ es sp, x.1 = .slice es sp ∧ es.length = n) := by
  obtain ⟨l, h1, h2, _, h3, h4⟩ := rd_slice (e := 5) (sz := 1) (by kernel_rfl) h (fun b : UInt8 => [Value.int .u8 (b.toNat : Int)]) (fun _ => True) (by kernel_rfl) (by decide) (fun _ => rfl) (fun _ _ _ h => read_byte h)
  rw [bv_flat] at h2
  exact ⟨l, h1, h2, h3, h4⟩

theorem list6 {l : List Value} (h : l.length = 6) : ∃ a b c d e f, l = [a, b, c, d, e, f] := by
  match l, h with
  | [a, b, c, d, e, f], _ => exact ⟨a, b, c, d, e, f, rfl⟩
theorem read_u64 {fuel : Nat} {cs : List Value} {y : DataW H × List MemPlace} (h : DataW.trod enc Tryd.prog W 0 (fun _ => true) true fuel 27 cs = some y) : ∃ b : Nat, cs = [uV b] ∧ u64ok b := by
  obtain ⟨z, rfl, _, hw⟩ := DataW.trod_int (k := .u64) (by kernel_rfl) h
  have := wf_u64 hw
  refine ⟨z.toNat, ?_, by unfold u64ok; omega⟩
  have e : ((z.toNat : Nat) : Int) = z := by omega
  unfold uV
  rw [e]
theorem uV_flat (l : List Nat) : (l.map fun b => [uV b]).flatten = uVs l := by
  induction l with
  | nil => rfl
  | cons a l ih => simp only [List.map_cons, List.flatten_cons, ih]; rfl
theorem read_u64s {fuel n c : Nat} {p : Option Addr} {x : DataW H × List MemPlace} (h : DataW.trod enc Tryd.prog W 0 (fun _ => true) true fuel 28 [.slice p n c] = some x) :
    ∃ l : List Nat, l.length = n ∧ SlAt [allOf W] p (uVs l) ∧ (∀ b ∈ l, u64ok b) ∧ n ≤ 9223372036854775807 ∧ (n = 0 ∨ ∃ es sp, x.1 = .slice es sp ∧ es.length = n) := by
  obtain ⟨l, h1, h2, h5, h3, h4⟩ := rd_slice (e := 27) (sz := 1) (by kernel_rfl) h (fun b : Nat => [uV b]) u64ok (by kernel_rfl) (by decide) (fun _ => rfl) (fun _ _ _ h => read_u64 h)
  rw [uV_flat] at h2
  exact ⟨l, h1, h2, h5, h3, h4⟩
/-- What reading a Value gives: no bounds yet. -/
structure VaRd (F : List Seg) (x : Va) : Prop where
  ku : u64ok x.u
  kv : u64ok x.v
  kb : ∀ b ∈ x.list, u64ok b
  at_ : SlAt F x.lp (uVs x.list)
  n0 : -9223372036854775808 ≤ x.n
  n1 : x.n ≤ 9223372036854775807
theorem read_va {fuel : Nat} {cs : List Value} {y : DataW H × List MemPlace} (h : DataW.trod enc Tryd.prog W 0 (fun _ => true) true fuel 30 cs = some y) : ∃ x : Va, cs = x.cells ∧ VaRd [allOf W] x ∧ bulkV x ≤ Rows.uptoBulk y.1 := by
  obtain ⟨m0, y0, _, h0, _, _, hl⟩ := rd_field (i := 0) (u := 3) (off := 0) (n := 1) h (by kernel_rfl)
  obtain ⟨m1, y1, _, h1, _, _, _⟩ := rd_field (i := 1) (u := 27) (off := 1) (n := 1) h (by kernel_rfl)
  obtain ⟨m2, y2, _, h2, _, _, _⟩ := rd_field (i := 2) (u := 27) (off := 2) (n := 1) h (by kernel_rfl)
  obtain ⟨m3, y3, ds, h3, hx, hd3, _⟩ := rd_field (i := 3) (u := 9) (off := 3) (n := 1) h (by kernel_rfl)
  obtain ⟨m4, y4, ds4, h4, hx4, hd4, _⟩ := rd_field (i := 4) (u := 28) (off := 4) (n := 1) h (by kernel_rfl)
  obtain ⟨m5, y5, _, h5, _, _, _⟩ := rd_field (i := 5) (u := 3) (off := 5) (n := 1) h (by kernel_rfl)
  obtain ⟨c0, c1, c2, c3, c4, c5, rfl⟩ := list6 (hl.trans (by kernel_rfl))
  have hk : Program.underlying Tryd.prog 3 = some (.int .i64) := by kernel_rfl
  obtain ⟨z0, rfl, w0⟩ := rd_int hk h0
  obtain ⟨b1, hb1, w1⟩ := read_u64 h1
  obtain ⟨b2, hb2, w2⟩ := read_u64 h2
  obtain ⟨s, hs, hy3, _⟩ := DataW.trod_string (by kernel_rfl) h3
  obtain ⟨pp, n, pc, rfl⟩ := slice_cell (e := 27) (by kernel_rfl) h4
  obtain ⟨l, rfl, hsl, hlk, hn, hbu⟩ := read_u64s h4
  obtain ⟨z5, rfl, w5⟩ := rd_int hk h5
  obtain rfl : c1 = uV b1 := by simpa using hb1
  obtain rfl : c2 = uV b2 := by simpa using hb2
  obtain rfl : c3 = .string s := by simpa using hs
  have w5' := wf_i64 w5
  refine ⟨⟨z0, b1, b2, s, l, z5, pp, pc⟩, rfl, ⟨w1, w2, hlk, hsl, w5'.1, w5'.2⟩, ?_⟩
  rw [hx] at hx4
  cases hx4
  have hb := bulk_two (i := 3) (j := 4) (by decide) hd3 hd4
  have e3 : s.size + 1 ≤ Rows.uptoBulk y3.1 := by
    rw [hy3]
    simp only [Rows.uptoBulk]
    have := dlen s
    have e : s.toList = s.data.toList := ByteArray.toList_eq s
    omega
  have e4 : l.length + 1 ≤ Rows.uptoBulk y4.1 := by
    rcases hbu with h0 | ⟨es, sp, he, hlen⟩
    · have := bulk_pos y4.1; omega
    · rw [he, ← hlen]
      have := bulk_len es
      simp only [Rows.uptoBulk]; omega
  have e0 : Rows.uptoBulk y.1 = Rows.uptoBulkAll ds + 1 := by rw [hx]; simp only [Rows.uptoBulk]
  unfold bulkV
  simp only
  omega
theorem read_vas {fuel n c : Nat} {p : Option Addr} {x : DataW H × List MemPlace} (h : DataW.trod enc Tryd.prog W 0 (fun _ => true) true fuel 22 [.slice p n c] = some x) (hk : Rows.uptoBulk x.1 ≤ 1048576) :
    ∃ l : List Va, l.length = n ∧ SlAt [allOf W] p (vaVs l) ∧ (∀ x ∈ l, x.Ok [allOf W]) ∧ (l.map bulkV).sum ≤ 1048576 ∧ l.length ≤ 1048576 := by
  obtain ⟨l, es, h1, h2, h3, h4, h5, h6⟩ := rd_slice2 (e := 30) (sz := 6) (by kernel_rfl) h Va.cells (fun x d => VaRd [allOf W] x ∧ bulkV x ≤ Rows.uptoBulk d) (by kernel_rfl) (by decide) (fun _ => rfl) (fun _ _ _ h => read_va h)
  have hsum : (l.map bulkV).sum ≤ 1048576 := by
    rcases h6 with h0 | ⟨sp, hx⟩
    · have : l = [] := List.eq_nil_of_length_eq_zero (by omega)
      subst this; simp
    · have h7 := sum_pair bulkV Rows.uptoBulk l es (by omega) (fun i z hz => by
        obtain ⟨d, hd, _, hb⟩ := h4 i z hz
        exact ⟨d, hd, hb⟩)
      rw [hx] at hk
      simp only [Rows.uptoBulk] at hk
      rw [bulk_sum] at hk
      omega
  have hmem : ∀ x ∈ l, bulkV x ≤ (l.map bulkV).sum := by
    intro x hx
    clear h1 h3 h4 hsum
    induction l with
    | nil => cases hx
    | cons a l ih =>
      simp only [List.map_cons, List.sum_cons]
      rcases List.mem_cons.1 hx with rfl | hx
      · omega
      · have := ih hx; omega
  have hlen : l.length ≤ (l.map bulkV).sum := by
    clear h1 h3 h4 hsum hmem
    induction l with
    | nil => simp
    | cons a l ih => simp only [List.map_cons, List.sum_cons, List.length_cons]; unfold bulkV at *; omega
  refine ⟨l, h1, h3, fun x hx => ?_, hsum, by omega⟩
  obtain ⟨i, hi⟩ := List.mem_iff_getElem?.1 hx
  obtain ⟨d, _, hr, _⟩ := h4 i x hi
  have := hmem x hx
  unfold bulkV at this hsum
  have h9 := hmem x hx
  unfold bulkV at h9
  exact ⟨hr.ku, hr.kv, by unfold bulkV at *; omega, by unfold bulkV at *; omega, hr.kb, hr.at_, hr.n0, hr.n1⟩
end Go.Proofs.YtippfdnjhcpekaaDoor
