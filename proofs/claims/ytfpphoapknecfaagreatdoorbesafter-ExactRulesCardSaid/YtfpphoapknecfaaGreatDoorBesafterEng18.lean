/- General rules for stepping through a function: no program stands in them. -/
import Derived.Test.YtfpphoapknecfaaGreatDoorBesafterEng17
import Derived.Lib.ConvBytes
namespace Go.Eng
open Go
variable {D : List Deferred}

/-- A slice of bytes of the call's own, whose row may bear the mark of a conversion behind its last cell. -/
def OwnZ (e : TypeId) (p : Option Addr) (n cap : Nat) (xs : List Value) (s : Seg) : Prop :=
  xs.length = n ∧ ((p = none ∧ n = 0 ∧ cap = 0 ∧ s = []) ∨
    ∃ g l fz, p = some ⟨g, 0, none⟩ ∧ s = [(g, Obj.cells (List.toArray l) e fz)] ∧ n ≤ cap ∧ l.length = cap ∧ l.take n = xs ∧ ∀ k, n ≤ k → k < cap → ¬ (fz.1 ≤ k ∧ k < fz.2))
theorem OwnZ.of {e n cap : Nat} {p : Option Addr} {xs : List Value} {s : Seg} (h : OwnSl e 1 p n cap xs s) : OwnZ e p n cap xs s := by
  obtain ⟨hl, ⟨rfl, rfl, rfl, rfl⟩ | ⟨g, l, rfl, rfl, hn, hc, ht⟩⟩ := h
  · exact ⟨by simpa using hl, .inl ⟨rfl, rfl, rfl, rfl⟩⟩
  · rw [Nat.mul_one] at hl hc
    exact ⟨hl, .inr ⟨g, l, (0, 0), rfl, rfl, hn, hc, by rw [← hl]; exact ht, fun k _ _ h => by simp only at h; omega⟩⟩
theorem OwnZ.nil {e : TypeId} : OwnZ e none 0 0 [] [] := ⟨rfl, .inl ⟨rfl, rfl, rfl, rfl⟩⟩
theorem OwnZ.le {e n cap : Nat} {p : Option Addr} {xs : List Value} {s : Seg} (h : OwnZ e p n cap xs s) : n ≤ cap := by
  obtain ⟨_, ⟨rfl, rfl, rfl, rfl⟩ | ⟨g, l, fz, rfl, rfl, hn, _⟩⟩ := h
  · exact Nat.le_refl _
  · exact hn
theorem OwnZ.slAt {e n cap : Nat} {p : Option Addr} {xs : List Value} {s : Seg} {L : List Seg} (h : OwnZ e p n cap xs s) : SlAt (s :: L) p xs := by
  obtain ⟨hl, ⟨rfl, rfl, rfl, rfl⟩ | ⟨g, l, fz, rfl, rfl, hn, hc, ht, _⟩⟩ := h
  · exact .inl (List.eq_nil_of_length_eq_zero hl)
  · refine .inr ⟨g, 0, _, _, _, rfl, List.mem_append_left _ (List.mem_singleton.2 rfl), fun j hj => ?_⟩
    rw [← ht, List.getElem?_take, if_pos (by omega)]
    simp
theorem OwnZ.spot {e n cap : Nat} {p : Option Addr} {xs : List Value} {s : Seg} (h : OwnZ e p n cap xs s) : ∀ a, p = some a → a.spot = none := by
  intro a ha
  obtain ⟨_, ⟨rfl, _⟩ | ⟨g, l, fz, rfl, _⟩⟩ := h
  · cases ha
  · cases ha; rfl

section
variable {P : Program} {ρ : Operand → Value} {w w0 : World} {L : List Seg} {d : Option Tmp} {ty : TypeId} {pos : String} {af : Array Edge} {g : Option (Nat × Bool)} {x y : Operand}

theorem Hp.setCellZ (h : Hp w0 w L) {i b : Nat} {l : List Value} {T : TypeId} {fz : Nat × Nat} (hi : L[i]? = some [(b, Obj.cells l.toArray T fz)]) (off : Nat) (v : Value) :
    Hp w0 (w.setCell ⟨b, off, none⟩ v) (L.set i [(b, Obj.cells (l.set off v).toArray T fz)]) := by
  have hb := h.get1 hi
  refine h.set hi (heap' := (w.setCell ⟨b, off, none⟩ v).heap) (by simp [World.setCell]) ?_ (fun c hc => RowKit.Below.heap_setCell _ _ _ _ hc)
  simp only [World.setCell, Array.getElem?_modify, if_true, hb]
  simp
theorem Hp.setCellsZ {i b : Nat} {T : TypeId} {fz : Nat × Nat} : ∀ (vs l : List Value) (w : World) (L : List Seg) (o : Nat), Hp w0 w L → L[i]? = some [(b, Obj.cells l.toArray T fz)] →
    Hp w0 (w.setCells b o vs) (L.set i [(b, Obj.cells (setN l o vs).toArray T fz)])
  | [], l, w, L, o, h, hi => by
    show Hp w0 w _
    rw [show setN l o [] = l from rfl, set_self hi]
    exact h
  | v :: vs, l, w, L, o, h, hi => by
    have h1 := h.setCellZ hi o v
    have h2 := Hp.setCellsZ vs (l.set o v) _ _ (o + 1) h1 (i := i) (by rw [List.getElem?_set_self]; exact getE_lt hi)
    rw [List.set_set] at h2
    exact h2
theorem setN_at : ∀ (vs l : List Value) (o : Nat), o + vs.length ≤ l.length → setN l o vs = l.take o ++ vs ++ l.drop (o + vs.length)
  | [], l, o, h => by simp [setN]
  | v :: vs, l, o, h => by
    simp only [List.length_cons] at h ⊢
    rw [setN, setN_at vs _ _ (by rw [List.length_set]; omega)]
    rw [List.take_set, List.take_add_one, List.drop_set_of_lt (by omega), List.getElem?_eq_getElem (show o < l.length by omega)]
    rw [List.set_append_right _ _ (by rw [List.length_take]; omega)]
    rw [List.length_take, Nat.min_eq_left (by omega), Nat.sub_self]
    simp
    congr 1; omega
/-- What a slice that can be read yields to append. -/
theorem src_slice {tx e' m c : Nat} {q : Option Addr} {ys : List Value} (H : Hp w0 w L) (hk : P.underlying tx = some (.slice e')) (hs : SlAt L q ys) (hl : ys.length = m) (h1 : ∀ v ∈ ys, isCell v = true) : Src P 1 tx (.slice q m c) m ys w := by
  have h1' : ∀ u ∈ ys, u.oneCell' = true := fun u hu => by have := h1 u hu; cases u <;> first | rfl | cases this
  cases q with
  | none =>
    rcases hs with rfl | ⟨_, _, _, _, _, hq, _⟩
    · subst hl; exact Src.ofNil w hk c
    · cases hq
  | some a =>
    refine Src.ofSlice w hk a m c ys (by omega) (fun j u hj => ?_) h1'
    obtain ⟨b, off, hp, hc⟩ := H.slcell hs hj
    cases hp
    rw [Addr.add_lit]; exact hc
/-- append of whatever can be read to bytes of the call's own. -/
theorem EX.appendZ {t e tx i n cap m : Nat} {pa : Option Addr} {xs ys : List Value} {s : Seg} {yv : Value} {L' : Seg → List Seg} (H : Hp w0 w L) (he : Elem P t e 1 1)
    (hx : ρ x = .slice pa n cap) (hy : ρ y = yv) (hsrc : Src P 1 tx yv m ys w) (hi : L[i]? = some s) (ho : OwnZ e pa n cap xs s) (hb : n + m ≤ 140737488355328) (hL : ∀ s', L.set i s' = L' s') :
    Does P ρ ⟨d, .call { callee := .builtin .append, args := #[x, y], argTypes := #[t, tx] }, ty, pos, af, g⟩ w fun u w' =>
      ∃ pa' cap' s', u = .slice pa' (n + m) cap' ∧ OwnZ e pa' (n + m) cap' (xs ++ ys) s' ∧ Hp w0 w' (L' s') := by
  obtain ⟨hu, inf, z, hinf, hz, hsize, hbytes, hzs⟩ := he
  have hexec : ∀ u w', (Builtin.append_ #[t, tx] ty #[.slice pa n cap, yv]).run P w = .ok u w' →
      (execOp ρ ⟨d, .call { callee := .builtin .append, args := #[x, y], argTypes := #[t, tx] }, ty, pos, af, g⟩).run P w = .ok (.value u) w' := by
    intro u w' h
    simp only [execOp, resolve, invoke, builtin, Sem.run_bind, Sem.run_pure, Result.andThen_ok, List.map_toArray, List.map_cons, List.map_nil, hx, hy, h]
  have hyl : ys.length = m := by have := hsrc.newsLen; omega
  have hreplace : ∀ (w' : World) (b : Nat) (o : Obj), Hp w0 w' ([(b, o)] :: L) → Hp w0 w' (L' [(b, o)]) := by
    intro w' b o h
    rw [← hL]
    have h2 := h.pull (i + 1) (s := s) (by simpa using hi)
    simp only [List.eraseIdx_cons_succ] at h2
    have h3 := h2.drop
    refine perm_of_flatten h3 ?_
    have h4 : (L.set i [(b, o)])[i]? = some [(b, o)] := by
      rw [List.getElem?_set_self]; exact (List.getElem?_eq_some_iff.1 hi).1
    have h5 := get_perm h4
    rw [List.eraseIdx_set_eq] at h5
    exact h5.symm
  have hdrew : ∀ o, Hp w0 (w.drew.alloc o) ([(w.heap.size, o)] :: L) := fun o => (H.same (w' := w.drew) ⟨rfl, rfl, rfl, rfl⟩).alloc o
  have hcapge : ∀ old, n + m ≤ grownCap w (n + m) old e := fun old => grownCap_ge w (n + m) old e
  have hzc : ∀ old, (Builtin.zeroCells z.cells (grownCap w (n + m) old e - (n + m))).size = grownCap w (n + m) old e - (n + m) := fun old => by rw [len_zeroCells, hzs, Nat.mul_one]
  have hxl := ho.1
  by_cases hroom : n + m ≤ cap
  · obtain ⟨hlen, ⟨rfl, rfl, rfl, rfl⟩ | ⟨gb, l, fz, rfl, rfl, hnc, hlc, htk, hfz⟩⟩ := ho
    · have h0 : m = 0 := by omega
      subst h0
      have hys : ys = [] := List.eq_nil_of_length_eq_zero hyl
      subst hys
      refine Does.of_run (v := .slice none (0 + 0) 0) (w' := w) (hexec _ _ ?_) ⟨none, 0, [], rfl, ⟨by rw [List.append_nil]; exact hlen, .inl ⟨rfl, rfl, rfl, rfl⟩⟩, ?_⟩
      · have hl := hsrc.len w
        have hc := hsrc.cells
        rcases hsrc.kind with ⟨e', hk⟩ | hk <;> simp [Builtin.append_, run_underlying hu, run_underlying hk, sizeOf, typeInfo, hinf, hsize, hl, hc, storeCells]
      · rw [← hL, set_self hi]; exact H
    · have hobj := H.get1 hi
      have hcl : ∀ k, w.cell? ⟨gb, k, none⟩ = l[k]? := fun k => by simp [World.cell?, hobj]
      have hfr : ∀ k, n ≤ k → k < cap → w.frozen? ⟨gb, k, none⟩ = false := fun k hn hk => by
        have h := hfz k hn hk
        obtain ⟨lo, hi'⟩ := fz
        simp only [World.frozen?, hobj] at h ⊢
        by_cases h1 : lo ≤ k
        · rw [decide_eq_false (show ¬ k < hi' from fun h2 => h ⟨h1, h2⟩), Bool.and_false]
        · rw [decide_eq_false h1, Bool.false_and]
      have hr := run_append_room_src (P := P) w t tx ty e inf hu hinf gb 0 n cap yv m ys (by rw [hsize]; exact hsrc) hroom
        (fun j hj => by rw [hcl, hsize, List.getElem?_eq_getElem (by omega)]; rfl) (fun j hj => hfr _ (by rw [hsize]; omega) (by rw [hsize]; omega))
      rw [hsize, Nat.mul_one, Nat.zero_add] at hr
      refine Does.of_run (hexec _ _ hr) ⟨_, cap, [(gb, Obj.cells (setN l n ys).toArray e fz)], rfl, ⟨by rw [List.length_append]; omega, .inr ⟨gb, _, fz, rfl, rfl, hroom, by rw [setN_len]; exact hlc, ?_, fun k h1 h2 => hfz k (by omega) h2⟩⟩, ?_⟩
      · rw [setN_at _ _ _ (by omega), htk, ← hyl, ← hlen, ← List.length_append, List.take_left]
      · rw [← hL]
        exact Hp.setCellsZ ys l w L n H hi
  · have hold : (Builtin.firstCells inf.size n (.slice pa n cap)).run P w.drew = .ok xs.toArray w.drew := by
      rw [hsize]
      obtain ⟨hlen, ⟨rfl, rfl, rfl, rfl⟩ | ⟨gb, l, fz, rfl, rfl, hnc, hlc, htk, hfz⟩⟩ := ho
      · have : xs = [] := List.eq_nil_of_length_eq_zero hlen
        subst this
        exact run_firstCells_none w.drew 1 0 0 0
      · have hobj := H.get1 hi
        refine run_firstCells_some w.drew 1 n ⟨gb, 0, none⟩ n cap xs (by omega) fun j v hj => ?_
        have hcl : w.cell? ⟨gb, 0 + j, none⟩ = l[0 + j]? := by simp [World.cell?, hobj]
        rw [Addr.add_lit]
        show w.cell? ⟨gb, 0 + j, none⟩ = some v
        obtain ⟨hlt, _⟩ := List.getElem?_eq_some_iff.1 hj
        rw [hcl, Nat.zero_add]
        rw [← htk, List.getElem?_take, if_pos (by omega)] at hj
        exact hj
    have hr := run_append_grow_src (P := P) w t tx ty e inf z hu hinf hz pa n cap xs hold yv m ys (by rw [hsize]; exact hsrc) (by omega) (by omega) (growslice_fits (by omega) (by rw [hbytes]; omega))
    refine Does.of_run (hexec _ _ hr) ⟨_, _, [(w.heap.size, Obj.cells (xs ++ ys ++ (Builtin.zeroCells z.cells (grownCap w (n + m) cap e - (n + m))).toList).toArray e (0, 0))], rfl,
      ⟨by rw [List.length_append]; omega, .inr ⟨_, _, (0, 0), rfl, rfl, hcapge cap, ?_, ?_, fun k _ _ h => by simp only at h; omega⟩⟩, ?_⟩
    · have := hcapge cap
      simp only [List.length_append, Array.length_toList, hzc]; omega
    · rw [show n + m = (xs ++ ys).length by rw [List.length_append]; omega]
      exact List.take_left
    · have h5 := hreplace _ _ _ (hdrew (.cells ((xs ++ ys).toArray ++ Builtin.zeroCells z.cells (grownCap w (n + m) cap e - (n + m))) e))
      have h6 : (Obj.cells (xs ++ ys ++ (Builtin.zeroCells z.cells (grownCap w (n + m) cap e - (n + m))).toList).toArray e (0, 0)) = .cells ((xs ++ ys).toArray ++ Builtin.zeroCells z.cells (grownCap w (n + m) cap e - (n + m))) e := by
        congr 1; apply Array.ext'; simp
      rw [h6]; exact h5
/-- A text as bytes of the call's own. -/
theorem EX.s2b {src dst e : TypeId} {s : ByteArray} (H : Hp w0 w L) (h1 : P.underlying src = some .string) (h2 : P.underlying dst = some (.slice e)) (h3 : P.underlying e = some (.int .u8)) (hx : ρ x = .string s) :
    Does P ρ ⟨d, .convert src dst x, ty, pos, af, g⟩ w fun u w' => ∃ p c sg, u = .slice p s.size c ∧ OwnZ e p s.size c (byteCells s) sg ∧ Hp w0 w' (sg :: L) := by
  have hr := Lib.run_convert_string_bytes w src dst e s h1 h2 h3
  have hn := Lib.bytesWorld_at_new w e s
  have hsz : (Lib.bytesCells w e s).size = grownCap w s.size 0 e := by
    have := grownCap_ge w s.size 0 e
    simp only [Lib.bytesCells, Array.size_append, Array.size_map, Array.size_replicate]
    show s.size + (grownCap w s.size 0 e - s.size) = _
    omega
  refine Does.of_run (v := .slice (some ⟨w.heap.size, 0, none⟩) s.size (grownCap w s.size 0 e)) (w' := Lib.bytesWorld w e s) ?_ ⟨_, _, [(w.heap.size, Obj.cells (Lib.bytesCells w e s).toList.toArray e ((Lib.bytesCells w e s).size, (Lib.bytesCells w e s).size + 1))], rfl, ⟨byteCells_length s, .inr ⟨_, _, _, rfl, rfl, grownCap_ge w s.size 0 e, by rw [Array.length_toList]; exact hsz, ?_, fun k _ h2 h => by simp only at h; omega⟩⟩, ?_⟩
  · simp only [execOp, hx, Sem.run_bind, hr, Result.andThen_ok]
    rfl
  · rw [← byteCells_length s]
    simp only [Lib.bytesCells, byteCells, Array.toList_append, Array.toList_map]
    exact List.take_left
  · refine ⟨H.os, H.tape, H.output, ?_, ?_, ?_⟩
    · rw [Lib.bytesWorld_size]; exact Nat.le_succ_of_le H.size
    · simp only [List.flatten_cons, List.map_append, List.map_cons, List.map_nil, List.singleton_append, List.nodup_cons]
      refine ⟨fun hm => ?_, H.nd⟩
      obtain ⟨e', he, h⟩ := List.mem_map.1 hm
      have := H.lt he
      omega
    · intro e' he
      simp only [List.flatten_cons, List.singleton_append, List.mem_cons] at he
      rcases he with rfl | he
      · exact hn
      · rw [Lib.bytesWorld_at_old _ _ _ _ (H.lt he)]; exact H.mem e' he
end
end Go.Eng
