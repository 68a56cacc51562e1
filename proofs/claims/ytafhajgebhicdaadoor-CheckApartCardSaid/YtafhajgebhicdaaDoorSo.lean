/- Sorting, compacting and cloning of lists of numbers. -/
import Derived.Test.YtafhajgebhicdaaDoorRef2
import Derived.Test.YtafhajgebhicdaaDoorShelf
namespace Go.Proofs.YtafhajgebhicdaaDoor
open Go Go.Eng
set_option maxRecDepth 100000
set_option linter.unusedVariables false
set_option linter.unusedSimpArgs false

section
open Go.Sort
theorem held_of {w0 w : World} {F : List Seg} {g e : Nat} {l : List Value} {zs : List Int} (H : Hp w0 w ([(g, cel l e)] :: F)) (ht : l.take zs.length = intsV zs) : Holds (Value.int .i64) w g 0 zs.toArray := by
  intro j hj
  have hj' : j < zs.length := by simpa using hj
  have hb := H.get1 (i := 0) rfl
  have h : (l.take zs.length)[j]? = some (.int .i64 zs[j]) := by rw [ht]; simp [intsV, hj']
  rw [List.getElem?_take_of_lt hj'] at h
  constructor
  · simp [World.cell?, hb, cel, h, hj']
  · simp [World.frozen?, hb, cel]
theorem putCells_list (zs : List Int) (l : List Value) (h : zs.length ≤ l.length) : putCells (Value.int .i64) 0 zs.toArray l.toArray = (intsV zs ++ l.drop zs.length).toArray := by
  apply Array.ext_getElem?
  intro k
  simp only [putCells, Array.getElem?_mapIdx, List.getElem?_toArray, List.getElem?_append, intsV_len, List.getElem?_drop]
  by_cases hk : k < zs.length
  · rw [if_pos hk, List.getElem?_eq_getElem (show k < l.length by omega)]
    simp [hk, intsV]
  · rw [if_neg hk, show zs.length + (k - zs.length) = k by omega]
    cases hl : l[k]? with
    | none => rfl
    | some x => simp [hk]
theorem hp_put {w0 w : World} {F : List Seg} {g e : Nat} {l : List Value} {zs : List Int} (H : Hp w0 w ([(g, cel l e)] :: F)) (h : zs.length ≤ l.length) (n : Nat) :
    Hp w0 (putRow (Value.int .i64) (Sort.ahead w n) g 0 zs.toArray) ([(g, cel (intsV zs ++ l.drop zs.length) e)] :: F) := by
  have hb := H.get1 (i := 0) rfl
  have hnd := H.nd
  simp only [List.flatten_cons, List.map_append, List.map_cons, List.map_nil, List.singleton_append, List.nodup_cons] at hnd
  refine ⟨H.os, H.tape, H.output, ?_, ?_, ?_⟩
  · rw [size_putRow]; exact H.size
  · simpa using H.nd
  · intro e' he'
    simp only [List.flatten_cons, List.singleton_append, List.mem_cons] at he'
    have hh : ∀ k, (putRow (Value.int .i64) (Sort.ahead w n) g 0 zs.toArray).heap[k]? = if g = k then (w.heap[k]?).map (onCells (putCells (Value.int .i64) 0 zs.toArray)) else w.heap[k]? := by
      intro k
      simp only [putRow, mapBlock, Sort.ahead, Array.getElem?_modify]
    rw [hh]
    rcases he' with rfl | he'
    · simp only [if_true, hb, Option.map_some, onCells, cel, putCells_list zs l h]
    · rw [if_neg]
      · exact H.mem e' (by simp only [List.flatten_cons, List.mem_append]; exact .inr he')
      · intro hg
        exact hnd.1 (List.mem_map.2 ⟨e', he', hg.symm⟩)
theorem hp_grow {w0 w : World} {L : List Seg} (H : Hp w0 w L) (os : Array Obj) : Hp w0 (Sort.grow w os) L := by
  refine ⟨H.os, H.tape, H.output, ?_, H.nd, ?_⟩
  · rw [size_grow]; exact Nat.le_trans H.size (Nat.le_add_right _ _)
  · intro e he
    have h := H.mem e he
    have hl := (Array.getElem?_eq_some_iff.1 h).1
    simp only [Sort.grow]
    rw [Array.getElem?_append_left hl]; exact h
theorem hp_below {w0 w w' : World} {L : List Seg} (H : Hp w0 w L) (h : RowKit.Below w.heap.size w w') : Hp w0 w' L :=
  ⟨h.os.trans H.os, h.tape.trans H.tape, h.output.trans H.output, Nat.le_trans H.size h.size, H.nd, fun e he => by
    have hm := H.mem e he
    rw [h.block _ (Array.getElem?_eq_some_iff.1 hm).1]; exact hm⟩
theorem hp_news {w0 w w' : World} {L : List Seg} {g : Nat} {o : Obj} (H : Hp w0 w L) (h : RowKit.Below w.heap.size w w') (hg : w.heap.size ≤ g) (ho : w'.heap[g]? = some o) : Hp w0 w' ([(g, o)] :: L) := by
  have H' := hp_below H h
  refine ⟨H'.os, H'.tape, H'.output, H'.size, ?_, ?_⟩
  · simp only [List.flatten_cons, List.map_append, List.map_cons, List.map_nil, List.singleton_append, List.nodup_cons]
    refine ⟨fun hm => ?_, H.nd⟩
    obtain ⟨e, he, rfl⟩ := List.mem_map.1 hm
    have := H.lt he
    omega
  · intro e he
    simp only [List.flatten_cons, List.singleton_append, List.mem_cons] at he
    rcases he with rfl | he
    · exact ho
    · exact H'.mem e he
def sorted (l : List Int) : List Int := l.mergeSort fun x y => decide (x ≤ y)
theorem sorted_len (l : List Int) : (sorted l).length = l.length := List.length_mergeSort l
theorem compact_le (l : List Int) : (Lib.compact l).length ≤ l.length := by
  unfold Lib.compact Lib.compactUpTo
  rw [List.length_map]
  exact Nat.le_trans (List.length_filter_le _ _) (by simp)
theorem sort_b {w0 w : World} {F : List Seg} {s : Seg} {p : Option Addr} {c : Nat} {l : List Int} (H : Hp w0 w (s :: F)) (ho : OwnSl 3 1 p l.length c (intsV l) s) (hl : l.length ≤ 4398046511104) :
    Ret Tryd.prog 45 [.slice p l.length c] w fun v w' => v = .tuple #[] ∧ ∃ s', OwnSl 3 1 p l.length c (intsV (sorted l)) s' ∧ Hp w0 w' (s' :: F) := by
  by_cases h0 : l.length = 0
  · have e : l = [] := List.eq_nil_of_length_eq_zero h0
    subst e
    refine (Tryd.slices_Sort_int_none p c w).mono fun e w' h => ?_
    obtain ⟨rfl, rfl⟩ := h
    exact ⟨_, rfl, rfl, s, by simpa [sorted] using ho, H⟩
  · obtain ⟨g, L, rfl, rfl, h1, h2, h3⟩ := ho.ptr (by omega)
    rw [intsV_len] at h3
    refine (Tryd.slices_Sort_int g 0 c l w (held_of H h3) (H.lt (e := (g, cel L 3)) (by simp)) (by omega)).mono fun e w' h => ?_
    obtain ⟨rfl, n, os, rfl⟩ := h
    refine ⟨_, rfl, rfl, _, ?_, hp_grow (hp_put H (zs := sorted l) (by rw [sorted_len]; omega) n) os⟩
    refine ⟨by rw [intsV_len, sorted_len]; omega, .inr ⟨g, _, rfl, rfl, h1, ?_, ?_⟩⟩
    · rw [List.length_append, intsV_len, sorted_len, List.length_drop]; omega
    · rw [List.take_left']; rfl
theorem compact_b {w0 w : World} {F : List Seg} {s : Seg} {p : Option Addr} {c : Nat} {l : List Int} (H : Hp w0 w (s :: F)) (ho : OwnSl 3 1 p l.length c (intsV l) s) (hl : l.length ≤ 4398046511104) :
    Ret Tryd.prog 46 [.slice p l.length c] w fun v w' => v = .slice p (Lib.compact l).length c ∧ ∃ s', OwnSl 3 1 p (Lib.compact l).length c (intsV (Lib.compact l)) s' ∧ Hp w0 w' (s' :: F) := by
  have hle := compact_le l
  by_cases h0 : l.length = 0
  · have e : l = [] := List.eq_nil_of_length_eq_zero h0
    subst e
    refine (Tryd.slices_Compact_int_empty p c w).mono fun e w' h => ?_
    obtain ⟨rfl, rfl⟩ := h
    exact ⟨_, rfl, rfl, s, ho, H⟩
  · obtain ⟨g, L, rfl, rfl, h1, h2, h3⟩ := ho.ptr (by omega)
    rw [intsV_len] at h3
    refine (Tryd.slices_Compact_int g 0 c l w (held_of H h3) (by omega) h1).mono fun e w' h => ?_
    obtain ⟨rfl, n, rfl⟩ := h
    have hlen : (Lib.compact l ++ List.replicate (l.length - (Lib.compact l).length) 0).length = l.length := by rw [List.length_append, List.length_replicate]; omega
    refine ⟨_, rfl, rfl, _, ?_, hp_put H (zs := Lib.compact l ++ List.replicate (l.length - (Lib.compact l).length) 0) (by rw [hlen]; omega) n⟩
    refine ⟨by rw [intsV_len]; omega, .inr ⟨g, _, rfl, rfl, by omega, ?_, ?_⟩⟩
    · rw [List.length_append, intsV_len, hlen, List.length_drop]; omega
    · rw [intsV_app, List.append_assoc, List.take_left']; rfl
theorem clone_b {w0 w : World} {F : List Seg} {p : Option Addr} {c : Nat} {l : List Int} (H : Hp w0 w F) (hs : SlAt F p (intsV l)) (h0 : 0 < l.length) (hl : l.length ≤ 4398046511104) :
    Ret Tryd.prog 32 [.slice p l.length c] w fun v w' => ∃ q cq s', v = .slice q l.length cq ∧ OwnSl 3 1 q l.length cq (intsV l) s' ∧ Hp w0 w' (s' :: F) := by
  obtain ⟨b, off, rfl, _⟩ := hs.some (by rw [intsV_len]; exact h0)
  refine (Tryd.slices_Clone_int b off l.length c l w (Nat.le_refl _) (by omega) (fun j hj => ?_)).mono fun e w' h => ?_
  · obtain ⟨b', off', hp, hc⟩ := H.slcell hs (j := j) (v := .int .i64 (l.getD j 0)) (intsV_get (by rw [List.getElem?_eq_getElem hj, List.getD_eq_getElem?_getD, List.getElem?_eq_getElem hj]; rfl))
    cases hp
    exact hc
  · obtain ⟨v, rfl, ⟨hx, hv⟩, _, hb⟩ := h
    rw [List.take_length] at hx hv
    rcases hv with ⟨_, h⟩ | ⟨g, cap, cur, rfl, hg, hh, h1, _, h3, h4⟩
    · omega
    · refine ⟨_, rfl, _, cap, [(g, cel cur.toList 3)], rfl, ⟨by rw [intsV_len]; omega, .inr ⟨g, cur.toList, rfl, rfl, h1, by simpa using h3, ?_⟩⟩, hp_news H hb hg (by simpa [cel] using hh)⟩
      rw [intsV_len]; simpa [intsV] using h4
end
end Go.Proofs.YtafhajgebhicdaaDoor
