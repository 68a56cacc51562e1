/- General rules for stepping through a function: no program stands in them. -/
import Derived.Test.YtfpphoapknecfaaGreatDoorBesafterEng2
import Derived.Below
namespace Go.Eng
open Go
variable {D : List Deferred}

abbrev Seg := List (Nat × Obj)
/-- A block of plain cells. -/
def cel (l : List Value) (T : TypeId) : Obj := .cells l.toArray T (0, 0)

/-- The memory that is known: segments of blocks, no block twice; the streams are those of w0. -/
structure Hp (w0 w : World) (L : List Seg) : Prop where
  os : w.os = w0.os
  tape : w.tape = w0.tape
  output : w.output = w0.output
  size : w0.heap.size ≤ w.heap.size
  nd : (L.flatten.map Prod.fst).Nodup
  mem : ∀ e, e ∈ L.flatten → w.heap[e.1]? = some e.2

section
variable {w0 w w' : World} {L : List Seg} {s : Seg} {b : Nat} {o o' : Obj}

theorem Hp.same (h : Hp w0 w L) (hs : Same w w') : Hp w0 w' L :=
  ⟨hs.os.trans h.os, hs.tape.trans h.tape, hs.output.trans h.output, by rw [hs.heap]; exact h.size, h.nd, fun e he => by rw [hs.heap]; exact h.mem e he⟩
theorem mem_flatten_of_get {i : Nat} {e : Nat × Obj} (hi : L[i]? = some s) (he : e ∈ s) : e ∈ L.flatten :=
  List.mem_flatten.2 ⟨s, List.mem_of_getElem? hi, he⟩
theorem Hp.get (h : Hp w0 w L) {i : Nat} {e : Nat × Obj} (hi : L[i]? = some s) (he : e ∈ s) : w.heap[e.1]? = some e.2 := h.mem e (mem_flatten_of_get hi he)
theorem Hp.get1 (h : Hp w0 w L) {i : Nat} (hi : L[i]? = some [(b, o)]) : w.heap[b]? = some o := h.get hi (List.mem_singleton.2 rfl)
theorem Hp.lt (h : Hp w0 w L) {e : Nat × Obj} (he : e ∈ L.flatten) : e.1 < w.heap.size := by
  have := h.mem e he
  rcases Nat.lt_or_ge e.1 w.heap.size with h' | h'
  · exact h'
  · rw [Array.getElem?_eq_none h'] at this; cases this

theorem Hp.alloc (h : Hp w0 w L) (o : Obj) : Hp w0 (w.alloc o) ([(w.heap.size, o)] :: L) := by
  refine ⟨h.os, h.tape, h.output, by simp; have := h.size; omega, ?_, ?_⟩
  · simp only [List.flatten_cons, List.cons_append, List.nil_append, List.map_cons, List.nodup_cons]
    refine ⟨?_, h.nd⟩
    intro hm
    obtain ⟨e, he, heq⟩ := List.mem_map.1 hm
    have := h.lt he
    omega
  · intro e he
    simp only [List.flatten_cons, List.cons_append, List.nil_append, List.mem_cons] at he
    rcases he with rfl | he
    · show (w.heap.push o)[w.heap.size]? = some o
      simp
    · have := h.lt he
      rw [RowKit.Below.heap_alloc _ _ _ this]
      exact h.mem e he

theorem perm_of_flatten {L L' : List Seg} (h : Hp w0 w L) (hp : L.flatten.Perm L'.flatten) : Hp w0 w L' :=
  ⟨h.os, h.tape, h.output, h.size, (hp.map Prod.fst).nodup_iff.1 h.nd, fun e he => h.mem e (hp.mem_iff.2 he)⟩
theorem get_perm : ∀ {L : List Seg} {i : Nat} {s : Seg}, L[i]? = some s → L.flatten.Perm (s :: L.eraseIdx i).flatten
  | t :: L, 0, s, h => by
    have : t = s := by simpa using h
    subst this
    exact List.Perm.refl _
  | t :: L, i + 1, s, h => by
    have ih := get_perm (L := L) (i := i) (s := s) (by simpa using h)
    simp only [List.flatten_cons, List.eraseIdx_cons_succ] at ih ⊢
    refine (ih.append_left t).trans ?_
    rw [← List.append_assoc, ← List.append_assoc]
    exact List.Perm.append_right _ List.perm_append_comm
/-- Segment i to the front. -/
theorem Hp.pull (h : Hp w0 w L) (i : Nat) (hi : L[i]? = some s) : Hp w0 w (s :: L.eraseIdx i) := perm_of_flatten h (get_perm hi)
theorem Hp.drop (h : Hp w0 w (s :: L)) : Hp w0 w L :=
  ⟨h.os, h.tape, h.output, h.size, by
    have := h.nd
    simp only [List.flatten_cons, List.map_append] at this
    exact (List.nodup_append.1 this).2.1, fun e he => h.mem e (by simp only [List.flatten_cons, List.mem_append]; exact .inr he)⟩
theorem Hp.nil (h : Hp w0 w L) : Hp w0 w ([] :: L) := perm_of_flatten h (by simp)
theorem Hp.join {t : Seg} (h : Hp w0 w (s :: t :: L)) : Hp w0 w ((s ++ t) :: L) := perm_of_flatten h (by simp)
theorem Hp.split {t : Seg} (h : Hp w0 w ((s ++ t) :: L)) : Hp w0 w (s :: t :: L) := perm_of_flatten h (by simp)

theorem set_flatten {L : List Seg} {i : Nat} {b : Nat} {o o' : Obj} (hi : L[i]? = some [(b, o)]) :
    ((L.set i [(b, o')]).flatten.map Prod.fst) = L.flatten.map Prod.fst := by
  induction L generalizing i with
  | nil => simp at hi
  | cons t L ih =>
    cases i with
    | zero =>
      have : t = [(b, o)] := by simpa using hi
      subst this
      simp
    | succ i => simp only [List.set_cons_succ, List.flatten_cons, List.map_append, ih (by simpa using hi)]
theorem mem_set_flatten {L : List Seg} {i : Nat} {b : Nat} {o o' : Obj} (hnd : (L.flatten.map Prod.fst).Nodup) (hi : L[i]? = some [(b, o)]) {e : Nat × Obj}
    (he : e ∈ (L.set i [(b, o')]).flatten) : e = (b, o') ∨ (e ∈ L.flatten ∧ e.1 ≠ b) := by
  induction L generalizing i with
  | nil => simp at hi
  | cons t L ih =>
    cases i with
    | zero =>
      have : t = [(b, o)] := by simpa using hi
      subst this
      simp only [List.set_cons_zero, List.flatten_cons, List.cons_append, List.nil_append, List.mem_cons] at he
      rcases he with rfl | he
      · exact .inl rfl
      · refine .inr ⟨by simp [he], fun hb => ?_⟩
        simp only [List.flatten_cons, List.cons_append, List.nil_append, List.map_cons, List.nodup_cons] at hnd
        exact hnd.1 (hb ▸ List.mem_map_of_mem he)
    | succ i =>
      have hi' : L[i]? = some [(b, o)] := by simpa using hi
      simp only [List.set_cons_succ, List.flatten_cons, List.mem_append] at he
      simp only [List.flatten_cons, List.map_append, List.nodup_append] at hnd
      rcases he with he | he
      · refine .inr ⟨by simp [he], fun hb => ?_⟩
        have h1 : e.1 ∈ t.map Prod.fst := List.mem_map_of_mem he
        have h2 : b ∈ L.flatten.map Prod.fst := List.mem_map.2 ⟨(b, o), mem_flatten_of_get hi' (List.mem_singleton.2 rfl), rfl⟩
        exact hnd.2.2 _ h1 _ h2 hb
      · rcases ih hnd.2.1 hi' he with h | h
        · exact .inl h
        · exact .inr ⟨by simp [h.1], h.2⟩
/-- A store into a block that stands alone in its segment. -/
theorem Hp.set (h : Hp w0 w L) {i : Nat} (hi : L[i]? = some [(b, o)]) {heap' : Array Obj} (hs : heap'.size = w.heap.size) (hb : heap'[b]? = some o') (hne : ∀ c, c ≠ b → heap'[c]? = w.heap[c]?) :
    Hp w0 { w with heap := heap' } (L.set i [(b, o')]) := by
  refine ⟨h.os, h.tape, h.output, by show w0.heap.size ≤ heap'.size; rw [hs]; exact h.size, ?_, fun e he => ?_⟩
  · rw [set_flatten hi]; exact h.nd
  · rcases mem_set_flatten h.nd hi he with rfl | ⟨he, hne'⟩
    · exact hb
    · show heap'[e.1]? = _
      rw [hne _ hne']; exact h.mem e he
theorem Hp.setCell (h : Hp w0 w L) {i : Nat} {l : List Value} {T : TypeId} (hi : L[i]? = some [(b, cel l T)]) (off : Nat) (v : Value) :
    Hp w0 (w.setCell ⟨b, off, none⟩ v) (L.set i [(b, cel (l.set off v) T)]) := by
  have hb := h.get1 hi
  refine h.set hi (heap' := (w.setCell ⟨b, off, none⟩ v).heap) (by simp [World.setCell]) ?_ (fun c hc => RowKit.Below.heap_setCell _ _ _ _ hc)
  simp only [World.setCell, Array.getElem?_modify, if_true, hb, cel]
  simp

theorem Hp.cell (h : Hp w0 w L) {i : Nat} {l : List Value} {T : TypeId} (hi : L[i]? = some [(b, cel l T)]) (off : Nat) : w.cell? ⟨b, off, none⟩ = l[off]? := by
  have hb := h.get1 hi
  simp [World.cell?, hb, cel]
theorem Hp.frozen (h : Hp w0 w L) {i : Nat} {l : List Value} {T : TypeId} (hi : L[i]? = some [(b, cel l T)]) (off : Nat) : w.frozen? ⟨b, off, none⟩ = false := by
  have hb := h.get1 hi
  simp [World.frozen?, hb, cel]
/-- A cell of a block of whatever kind of row, in a segment of many. -/
theorem Hp.cellm (h : Hp w0 w L) {i : Nat} {C : Array Value} {T : TypeId} {fz : Nat × Nat} (hi : L[i]? = some s) (hm : (b, Obj.cells C T fz) ∈ s) (off : Nat) :
    w.cell? ⟨b, off, none⟩ = C[off]? := by
  have hb := h.get hi hm
  simp only at hb
  simp [World.cell?, hb]

/-- All that lies in a world. -/
def allOf (w : World) : Seg := w.heap.toList.zipIdx.map fun p => (p.2, p.1)
theorem Hp.start (w : World) : Hp w w [allOf w] := by
  refine ⟨rfl, rfl, rfl, Nat.le_refl _, ?_, fun e he => ?_⟩
  · simp only [List.flatten_cons, List.flatten_nil, List.append_nil, allOf, List.map_map]
    have : (w.heap.toList.zipIdx.map (Prod.fst ∘ fun p : Obj × Nat => (p.2, p.1))) = List.range' 0 w.heap.toList.length := by
      rw [← List.zipIdx_map_snd 0 w.heap.toList]; rfl
    rw [this]
    exact List.nodup_range'
  · simp only [List.flatten_cons, List.flatten_nil, List.append_nil, allOf, List.mem_map] at he
    obtain ⟨⟨o, i⟩, hm, rfl⟩ := he
    have := List.mem_zipIdx_iff_getElem?.1 hm
    simpa using this
theorem allOf_mem {w : World} {b : Nat} {o : Obj} (h : w.heap[b]? = some o) : (b, o) ∈ allOf w :=
  List.mem_map.2 ⟨(o, b), List.mem_zipIdx_iff_getElem?.2 (by simpa using h), rfl⟩
theorem Hp.below (h : Hp w0 w L) {i : Nat} (hi : L[i]? = some (allOf w0)) : RowKit.Below w0.heap.size w0 w := by
  refine ⟨h.os, h.tape, h.output, h.size, fun k hk => ?_⟩
  have hk' : w0.heap[k]? = some w0.heap[k] := Array.getElem?_eq_getElem hk
  rw [hk']
  exact h.get hi (allOf_mem hk')
end
end Go.Eng
