/- Sorted rows of numbers; Sizes. -/
import Derived.Test.YtmppcnbkfjeabaaDoorIt
import Derived.Test.YtmppcnbkfjeabaaDoorShelf
namespace Go.Proofs.YtmppcnbkfjeabaaDoor
open Go Go.Eng
set_option maxRecDepth 100000
set_option linter.unusedVariables false
set_option linter.unusedSimpArgs false
theorem cl35 : callable Tryd.prog 35 = true := by kernel_rfl
theorem cl36 : callable Tryd.prog 36 = true := by kernel_rfl
theorem cl37 : callable Tryd.prog 37 = true := by kernel_rfl
theorem cl48 : callable Tryd.prog 48 = true := by kernel_rfl
theorem cl49 : callable Tryd.prog 49 = true := by kernel_rfl
theorem cl50 : callable Tryd.prog 50 = true := by kernel_rfl
theorem cl63 : callable Tryd.prog 63 = true := by kernel_rfl
theorem sz22 : szOf Tryd.prog 22 = some 1 := by kernel_rfl

section
open Go.Sort
theorem held_of {w0 w : World} {F : List Seg} {g e : Nat} {l : List Value} {zs : List Int} (H : Hp w0 w ([(g, cel l e)] :: F)) (ht : l.take zs.length = intsV zs) : Holds (Value.int .i64) w g 0 zs.toArray := by
  intro j hj
  have hj' : j < zs.length := by simpa using hj
  have hb := H.get1 (i := 0) rfl
  have h : (l.take zs.length)[j]? = some (.int .i64 zs[j]) := by rw [ht]; simp [intsV, hj']
  rw [List.getElem?_take_of_lt hj'] at h
  constructor
  · simp [World.cell?, hb, cel, h, hj']
  · simp [World.frozen?, hb, cel]
theorem putCells_list (zs : List Int) (l : List Value) (h : zs.length ≤ l.length) : putCells (Value.int .i64) 0 zs.toArray l.toArray = (intsV zs ++ l.drop zs.length).toArray := by
  apply Array.ext_getElem?
  intro k
  simp only [putCells, Array.getElem?_mapIdx, List.getElem?_toArray, List.getElem?_append, intsV_len, List.getElem?_drop]
  by_cases hk : k < zs.length
  · rw [if_pos hk, List.getElem?_eq_getElem (show k < l.length by omega)]
    simp [hk, intsV]
  · rw [if_neg hk, show zs.length + (k - zs.length) = k by omega]
    cases hl : l[k]? with
    | none => rfl
    | some x => simp [hk]
theorem hp_put {w0 w : World} {F : List Seg} {g e : Nat} {l : List Value} {zs : List Int} (H : Hp w0 w ([(g, cel l e)] :: F)) (h : zs.length ≤ l.length) (n : Nat) :
    Hp w0 (putRow (Value.int .i64) (Sort.ahead w n) g 0 zs.toArray) ([(g, cel (intsV zs ++ l.drop zs.length) e)] :: F) := by
  have hb := H.get1 (i := 0) rfl
  have hnd := H.nd
  simp only [List.flatten_cons, List.map_append, List.map_cons, List.map_nil, List.singleton_append, List.nodup_cons] at hnd
  refine ⟨H.os, H.tape, H.output, ?_, ?_, ?_⟩
  · rw [size_putRow]; exact H.size
  · simpa using H.nd
  · intro e' he'
    simp only [List.flatten_cons, List.singleton_append, List.mem_cons] at he'
    have hh : ∀ k, (putRow (Value.int .i64) (Sort.ahead w n) g 0 zs.toArray).heap[k]? = if g = k then (w.heap[k]?).map (onCells (putCells (Value.int .i64) 0 zs.toArray)) else w.heap[k]? := by
      intro k
      simp only [putRow, mapBlock, Sort.ahead, Array.getElem?_modify]
    rw [hh]
    rcases he' with rfl | he'
    · simp only [if_true, hb, Option.map_some, onCells, cel, putCells_list zs l h]
    · rw [if_neg]
      · exact H.mem e' (by simp only [List.flatten_cons, List.mem_append]; exact .inr he')
      · intro hg
        exact hnd.1 (List.mem_map.2 ⟨e', he', hg.symm⟩)
theorem hp_grow {w0 w : World} {L : List Seg} (H : Hp w0 w L) (os : Array Obj) : Hp w0 (Sort.grow w os) L := by
  refine ⟨H.os, H.tape, H.output, ?_, H.nd, ?_⟩
  · rw [size_grow]; exact Nat.le_trans H.size (Nat.le_add_right _ _)
  · intro e he
    have h := H.mem e he
    have hl := (Array.getElem?_eq_some_iff.1 h).1
    simp only [Sort.grow]
    rw [Array.getElem?_append_left hl]; exact h
theorem hp_below {w0 w w' : World} {L : List Seg} (H : Hp w0 w L) (h : RowKit.Below w.heap.size w w') : Hp w0 w' L :=
  ⟨h.os.trans H.os, h.tape.trans H.tape, h.output.trans H.output, Nat.le_trans H.size h.size, H.nd, fun e he => by
    have hm := H.mem e he
    rw [h.block _ (Array.getElem?_eq_some_iff.1 hm).1]; exact hm⟩
theorem hp_news {w0 w w' : World} {L : List Seg} {g : Nat} {o : Obj} (H : Hp w0 w L) (h : RowKit.Below w.heap.size w w') (hg : w.heap.size ≤ g) (ho : w'.heap[g]? = some o) : Hp w0 w' ([(g, o)] :: L) := by
  have H' := hp_below H h
  refine ⟨H'.os, H'.tape, H'.output, H'.size, ?_, ?_⟩
  · simp only [List.flatten_cons, List.map_append, List.map_cons, List.map_nil, List.singleton_append, List.nodup_cons]
    refine ⟨fun hm => ?_, H.nd⟩
    obtain ⟨e, he, rfl⟩ := List.mem_map.1 hm
    have := H.lt he
    omega
  · intro e he
    simp only [List.flatten_cons, List.singleton_append, List.mem_cons] at he
    rcases he with rfl | he
    · exact ho
    · exact H'.mem e he
def sorted (l : List Int) : List Int := l.mergeSort fun x y => decide (x ≤ y)
theorem sorted_len (l : List Int) : (sorted l).length = l.length := List.length_mergeSort l
theorem sort_b {w0 w : World} {F : List Seg} {s : Seg} {p : Option Addr} {c : Nat} {l : List Int} (H : Hp w0 w (s :: F)) (ho : OwnSl 3 1 p l.length c (intsV l) s) (hl : l.length ≤ 4398046511104) :
    Ret Tryd.prog 49 [.slice p l.length c] w fun v w' => v = .tuple #[] ∧ ∃ s', OwnSl 3 1 p l.length c (intsV (sorted l)) s' ∧ Hp w0 w' (s' :: F) := by
  by_cases h0 : l.length = 0
  · have e : l = [] := List.eq_nil_of_length_eq_zero h0
    subst e
    refine (Tryd.slices_Sort_int_none p c w).mono fun e w' h => ?_
    obtain ⟨rfl, rfl⟩ := h
    exact ⟨_, rfl, rfl, s, by simpa [sorted] using ho, H⟩
  · obtain ⟨g, L, rfl, rfl, h1, h2, h3⟩ := ho.ptr (by omega)
    rw [intsV_len] at h3
    refine (Tryd.slices_Sort_int g 0 c l w (held_of H h3) (H.lt (e := (g, cel L 3)) (by simp)) (by omega)).mono fun e w' h => ?_
    obtain ⟨rfl, n, os, rfl⟩ := h
    refine ⟨_, rfl, rfl, _, ?_, hp_grow (hp_put H (zs := sorted l) (by rw [sorted_len]; omega) n) os⟩
    refine ⟨by rw [intsV_len, sorted_len]; omega, .inr ⟨g, _, rfl, rfl, h1, ?_, ?_⟩⟩
    · rw [List.length_append, intsV_len, sorted_len, List.length_drop]; omega
    · rw [List.take_left']; rfl
end

theorem sorted_le (l : List Int) : (sorted l).Pairwise (· ≤ ·) := by
  have h := List.pairwise_mergeSort (le := fun x y : Int => decide (x ≤ y)) (fun a b c h1 h2 => by simp only [decide_eq_true_eq] at *; omega) (fun a b => by simp only [Bool.or_eq_true, decide_eq_true_eq]; omega) l
  exact h.imp fun h => of_decide_eq_true h
theorem sorted_perm (l : List Int) : (sorted l).Perm l := List.mergeSort_perm l _
theorem up_len : ∀ (l : List Int) (a b : Int), l.Pairwise (· < ·) → (∀ x ∈ l, a ≤ x ∧ x ≤ b) → a ≤ b + 1 → a + l.length ≤ b + 1
  | [], a, b, _, _, h => by simpa using h
  | x :: l, a, b, hp, hr, _ => by
    rw [List.pairwise_cons] at hp
    have hx := hr x List.mem_cons_self
    have := up_len l (x + 1) b hp.2 (fun y hy => ⟨by have := hp.1 y hy; omega, (hr y (List.mem_cons_of_mem _ hy)).2⟩) (by omega)
    simp only [List.length_cons]; omega
theorem lt_of_le {l : List Int} (h : l.Pairwise (· ≤ ·)) (hn : l.Nodup) : l.Pairwise (· < ·) := by
  have := h.and hn
  exact this.imp fun ⟨h1, h2⟩ => by omega
theorem TS.ok.keyRange {s : TS} (ok : s.ok) : ∀ x ∈ s.keys, 1 ≤ x ∧ x ≤ 16384 := by
  intro x hx
  obtain ⟨e, he, rfl⟩ := List.mem_map.1 hx
  exact ok.rng e he
theorem TS.ok.len {s : TS} (ok : s.ok) : s.keys.length ≤ 16384 := by
  have hp := sorted_perm s.keys
  have h := up_len (sorted s.keys) 1 16384 (lt_of_le (sorted_le _) (hp.nodup_iff.2 ok.ndk)) (fun x hx => ok.keyRange x (hp.mem_iff.1 hx)) (by decide)
  rw [sorted_len] at h
  omega

theorem appendSeq_b {w0 w : World} {X F : List Seg} {g : FuncId} {cv : List Value} {Sx : List Int → Prop} (hc : callable Tryd.prog g = true) (hs : SeqI Tryd.prog g cv w0 16384 X F Sx) (H : Hp w0 w (X ++ F)) : Ret Tryd.prog 63 [.slice none 0 0, .func (.func g) #[] cv.toArray] w fun v w' => ∃ xs p c sl, v = .slice p xs.length c ∧ Sx xs ∧ OwnSl 3 1 p xs.length c (intsV xs) sl ∧ Hp w0 w' (sl :: (X ++ F)) := by
  refine Calls.of_J (n := 13) Tryd.func63 rfl rfl rfl ?_
  refine J.seq ?_
  refine J.region ?_
  refine JL.does trivial (EX.box (v := Value.slice _ _ _) H rfl rfl) ?_
  rintro _ w ⟨b4, rfl, H⟩
  refine JL.go trivial (RX.assign) ?_
  refine JL.nil ?_
  refine J.seq ?_
  refine J.seq ?_
  refine J.region ?_
  refine JL.go trivial (RX.movev (v := Value.func _ _ _) rfl) ?_
  refine JL.nil ?_
  refine J.block ?_
  refine J.rangeFunc (fv := []) (cv := cv) H rfl hc rfl ?_
  generalize hasg : (Code.region 2 _ false) = asg
  generalize hbdy : (Code.block 1 _) = bdy
  rintro r l a w1 hl ha H
  have hY : YI Tryd.prog l (Acc l r b4 (loopObj .ready 63 a.tmps #[7] asg bdy r)) never w0 16384 (F) := by
    rintro xs _ X w x ⟨p2, c2, sl, rfl, ho⟩ hx H
    replace H := hp_fore H
    replace H : Hp w0 w ([(l, loopObj .ready 63 a.tmps #[7] asg bdy r)] :: [(r, Obj.deferred (some []))] :: [(b4, cel [.slice p2 xs.length c2] 22)] :: sl :: (X ++ (F))) := H
    refine yield_round H (i := 0) rfl ha ?_
    refine FC.code hasg ?_
    refine FC.region ?_
    refine FL.go (fair_round l) rfl trivial (RX.assignv (v := Value.int _ _) rfl) ?_
    refine FL.nil ?_
    intro a1 ha1
    refine ⟨_, run_beginRound (H.get1 (i := 0) rfl) rfl, ?_⟩
    replace H := H.putObj (i := 0) (o' := loopObj .busy 63 a.tmps #[7] asg bdy r) rfl
    replace H : Hp w0 _ ([(l, loopObj .busy 63 a.tmps #[7] asg bdy r)] :: [(r, Obj.deferred (some []))] :: [(b4, cel [.slice p2 xs.length c2] 22)] :: sl :: (X ++ (F))) := H
    refine (?_ : FC (Fence.wide.inRound l) [] Tryd.prog 13 _ _ _ _) a1 ha1
    refine FC.code hbdy ?_
    refine FC.block ?_
    refine FC.region ?_
    refine FL.go (fair_round l) rfl trivial (RX.load H rfl (i := 2) (v := .slice p2 xs.length c2) rfl rfl one22) ?_
    refine FL.go (fair_round l) rfl trivial (RX.movev (v := Value.int _ _) rfl) ?_
    refine FL.does (fair_round l) rfl trivial (EX.buildSlice1 H elI rfl rfl) ?_
    rintro _ w ⟨bz, rfl, H⟩
    refine FL.does (fair_round l) rfl trivial (EX.append (ys := [.int .i64 x]) (L' := fun s' => [(bz, cel [.int .i64 x] 3)] :: [(l, loopObj .busy 63 a.tmps #[7] asg bdy r)] :: [(r, Obj.deferred (some []))] :: [(b4, cel [.slice p2 xs.length c2] 22)] :: s' :: (X ++ F)) H elI rfl rfl (i := 4) rfl ho (SlAt.here rfl) rfl (intsV_cell [x]) (by decide) (by omega) (by omega) (fun _ => rfl)) ?_
    rintro _ w ⟨p3, c3, s3, rfl, ho3, H⟩
    refine FL.does (fair_round l) rfl trivial (EX.store (v := Value.slice _ _ _) H rfl rfl (i := 3) (l' := [.slice p3 (xs.length + 1) c3]) rfl rfl (by simp) sz22 rfl rfl) ?_
    rintro _ w H
    refine FL.nil ?_
    intro a2 ha2
    replace H : Hp w0 _ ([(l, loopObj .busy 63 a.tmps #[7] asg bdy r)] :: [(r, Obj.deferred (some []))] :: [(b4, cel [.slice p3 (xs.length + 1) c3] 22)] :: s3 :: (X ++ (F))) := H.drop
    refine ⟨_, _, run_endRound none (H.get1 (i := 0) rfl), _, rfl, true, [[(l, loopObj .ready 63 a.tmps #[7] asg bdy r)], [(r, Obj.deferred (some []))], [(b4, cel [.slice p3 (xs.length + 1) c3] 22)], s3], rfl, fun _ => ⟨p3, c3, s3, by rw [List.length_append]; rfl, by rw [List.length_append, intsV_app]; exact ho3⟩, fun h => (by cases h), ?_⟩
    replace H := H.putObj (i := 0) (o' := loopObj .ready 63 a.tmps #[7] asg bdy r) rfl
    exact hp_fore (X := [_, _, _, _]) (G := X) H
  rw [← hl]
  refine Ret.mono (hs l (Acc l r b4 (loopObj .ready 63 a.tmps #[7] asg bdy r)) [[(l, loopObj .ready 63 a.tmps #[7] asg bdy r)], [(r, Obj.deferred (some []))], [(b4, cel [.slice none 0 0] 22)], []] _ hY ⟨none, 0, [], rfl, OwnSl.nil⟩ ?_) ?_
  · refine hp_fore (X := [_, _, _, _]) (G := X) ?_
    exact ((H.nil.pull 3 rfl).pull 3 rfl).pull 3 rfl
  rintro v w3 ⟨xs, G1, hS, ⟨p3, c3, sl, rfl, ho⟩, H⟩
  replace H := hp_fore H
  refine ⟨0, _, H, rfl, fun w H => ?_⟩
  replace H : Hp w0 w ([(l, loopObj .exhausted 63 a.tmps #[7] asg bdy r)] :: [(r, Obj.deferred (some []))] :: [(b4, cel [.slice p3 xs.length c3] 22)] :: sl :: (X ++ F)) := H
  refine J.inBlock ?_
  refine J.seq ?_
  refine J.region ?_
  refine JL.go trivial (RX.load H rfl (i := 2) (v := .slice p3 xs.length c3) rfl rfl one22) ?_
  refine JL.go trivial (RX.assignv (v := Value.slice _ _ _) rfl) ?_
  refine JL.nil ?_
  refine J.ret_mark Tryd.func63 H (i := 1) rfl ?_
  intro w2 a2 ha2 H
  refine ⟨_, results1 (v := .slice p3 xs.length c3) rfl rfl a2 ha2, ?_⟩
  exact ⟨_, rfl, xs, p3, c3, sl, rfl, hS, ho, H.drop.drop.drop⟩
theorem Collect_b {w0 w : World} {X F : List Seg} {g : FuncId} {cv : List Value} {Sx : List Int → Prop} (hc : callable Tryd.prog g = true) (hs : SeqI Tryd.prog g cv w0 16384 X F Sx) (H : Hp w0 w (X ++ F)) : Ret Tryd.prog 48 [.func (.func g) #[] cv.toArray] w fun v w' => ∃ xs p c sl, v = .slice p xs.length c ∧ Sx xs ∧ OwnSl 3 1 p xs.length c (intsV xs) sl ∧ Hp w0 w' (sl :: (X ++ F)) := by
  refine Calls.of_J (n := 5) Tryd.func48 rfl rfl rfl ?_
  refine J.seq ?_
  refine J.region ?_
  refine JL.go trivial (RX.assign) ?_
  refine JL.nil ?_
  refine J.seq ?_
  refine J.region ?_
  refine JL.go trivial (RX.movev (v := Value.func _ _ _) rfl) ?_
  refine JL.does trivial (EX.call rfl cl63 rfl ((appendSeq_b hc hs H))) ?_
  rintro _ w ⟨xs, p, c, sl, rfl, hS, ho, H⟩
  refine JL.go trivial (RX.assignv (v := Value.slice _ _ _) rfl) ?_
  refine JL.nil ?_
  refine J.ret1 (v := Value.slice _ _ _) Tryd.func48 rfl rfl ?_
  exact ⟨_, rfl, xs, p, c, sl, rfl, hS, ho, H⟩
theorem Sorted_b {w0 w : World} {X F : List Seg} {g : FuncId} {cv : List Value} {Sx : List Int → Prop} (hc : callable Tryd.prog g = true) (hs : SeqI Tryd.prog g cv w0 16384 X F Sx) (hN : ∀ xs, Sx xs → xs.length ≤ 16384) (H : Hp w0 w (X ++ F)) : Ret Tryd.prog 36 [.func (.func g) #[] cv.toArray] w fun v w' => ∃ xs p c sl, v = .slice p (sorted xs).length c ∧ Sx xs ∧ OwnSl 3 1 p (sorted xs).length c (intsV (sorted xs)) sl ∧ Hp w0 w' (sl :: (X ++ F)) := by
  refine Calls.of_J (n := 9) Tryd.func36 rfl rfl rfl ?_
  refine J.seq ?_
  refine J.region ?_
  refine JL.go trivial (RX.assign) ?_
  refine JL.nil ?_
  refine J.seq ?_
  refine J.region ?_
  refine JL.go trivial (RX.movev (v := Value.func _ _ _) rfl) ?_
  refine JL.does trivial (EX.call rfl cl48 rfl ((Collect_b hc hs H))) ?_
  rintro _ w ⟨xs, p, c, sl, rfl, hS, ho, H⟩
  have hxl := hN xs hS
  refine JL.go trivial (RX.assignv (v := Value.slice _ _ _) rfl) ?_
  refine JL.nil ?_
  refine J.seq ?_
  refine J.region ?_
  refine JL.go trivial (RX.movev (v := Value.slice _ _ _) rfl) ?_
  refine JL.does trivial (EX.call rfl cl49 rfl ((sort_b H ho (by omega)))) ?_
  rintro _ w ⟨rfl, sl2, ho2, H⟩
  refine JL.nil ?_
  refine J.seq ?_
  refine J.region ?_
  refine JL.go trivial (RX.movev (v := Value.slice _ _ _) rfl) ?_
  refine JL.go trivial (RX.assignv (v := Value.slice _ _ _) rfl) ?_
  refine JL.nil ?_
  refine J.ret1 (v := Value.slice _ _ _) Tryd.func36 rfl rfl ?_
  rw [← sorted_len xs] at ho2 ⊢
  exact ⟨_, rfl, xs, p, c, sl2, rfl, hS, ho2, H⟩
theorem Keys_b {w0 w : World} {F : List Seg} (H : Hp w0 w F) {mb : Nat} : Ret Tryd.prog 37 [.map (some mb)] w fun v w' => ∃ b, v = .func (.func 50) #[] #[.pointer (some ⟨b, 0, none⟩)] ∧ Hp w0 w' ([(b, cel [.map (some mb)] 57)] :: F) := by
  refine Calls.of_J (n := 4) Tryd.func37 rfl rfl rfl ?_
  refine J.seq ?_
  refine J.region ?_
  refine JL.does trivial (EX.box H rfl rfl) ?_
  rintro _ w ⟨b1, rfl, H⟩
  refine JL.go trivial (RX.assignv (v := Value.nilFunc) rfl) ?_
  refine JL.nil ?_
  refine J.seq ?_
  refine J.region ?_
  refine JL.go trivial (RX.makeFunc (fv := []) (cv := [.pointer (some ⟨b1, 0, none⟩)]) rfl rfl) ?_
  refine JL.go trivial (RX.assignv (v := Value.func _ _ _) rfl) ?_
  refine JL.nil ?_
  refine J.ret1 Tryd.func37 rfl rfl ?_
  exact ⟨_, rfl, b1, rfl, H⟩
theorem Values_b {w0 w : World} {F : List Seg} (H : Hp w0 w F) {p : Option Addr} {n c : Nat} : Ret Tryd.prog 35 [.slice p n c] w fun v w' => ∃ b, v = .func (.func 47) #[] #[.pointer (some ⟨b, 0, none⟩)] ∧ Hp w0 w' ([(b, cel [.slice p n c] 22)] :: F) := by
  refine Calls.of_J (n := 4) Tryd.func35 rfl rfl rfl ?_
  refine J.seq ?_
  refine J.region ?_
  refine JL.does trivial (EX.box (v := Value.slice _ _ _) H rfl rfl) ?_
  rintro _ w ⟨b1, rfl, H⟩
  refine JL.go trivial (RX.assignv (v := Value.nilFunc) rfl) ?_
  refine JL.nil ?_
  refine J.seq ?_
  refine J.region ?_
  refine JL.go trivial (RX.makeFunc (fv := []) (cv := [.pointer (some ⟨b1, 0, none⟩)]) rfl rfl) ?_
  refine JL.go trivial (RX.assignv (v := Value.func _ _ _) rfl) ?_
  refine JL.nil ?_
  refine J.ret1 Tryd.func35 rfl rfl ?_
  exact ⟨_, rfl, b1, rfl, H⟩
theorem Sizes_b {w0 w : World} {F : List Seg} {t : Nat} {s : TS} (H : Hp w0 w (s.tb t 0 :: s.mp :: s.ts :: F)) (ok : s.ok) : Ret Tryd.prog 22 [.pointer (some ⟨t, 0, none⟩)] w fun v w' => ∃ b zs p c sl, v = .func (.func 47) #[] #[.pointer (some ⟨b, 0, none⟩)] ∧ zs.Perm s.keys ∧ zs.Pairwise (· ≤ ·) ∧ OwnSl 3 1 p zs.length c (intsV zs) sl ∧ Hp w0 w' ([(b, cel [.slice p zs.length c] 22)] :: sl :: s.tb t 0 :: s.mp :: s.ts :: F) := by
  refine Calls.of_J (n := 17) Tryd.func22 rfl rfl rfl ?_
  refine J.seq ?_
  refine J.region ?_
  refine JL.go trivial (RX.assignv (v := Value.nilFunc) rfl) ?_
  refine JL.nil ?_
  refine J.seq ?_
  refine J.region ?_
  refine JL.go trivial (RX.movev (v := Value.pointer _) rfl) ?_
  refine JL.go trivial (RX.nilCheck rfl) ?_
  refine JL.go trivial (RX.fieldAddr rfl fo66_0 rfl) ?_
  refine JL.does trivial (EX.call rfl cl26 rfl ((lock_r muLib H (i := 0) rfl rfl))) ?_
  rintro _ w ⟨rfl, H⟩
  replace H : Hp w0 w (s.tb t 1 :: s.mp :: s.ts :: F) := H
  refine JL.nil ?_
  refine J.seq ?_
  refine J.regionD (dd := { target := .fn (.func 27) #[], args := #[.pointer (some ⟨t, 0, none⟩)] }) ?_
  refine JLd.go trivial (RX.movev (v := Value.pointer _) rfl) ?_
  refine JLd.go trivial (RX.nilCheck rfl) ?_
  refine JLd.go trivial (RX.fieldAddr rfl fo66_0 rfl) ?_
  refine JLd.defer rfl rfl (run_deferA rfl rfl) ?_
  refine J.seq ?_
  refine J.region ?_
  refine JL.go trivial (RX.movev (v := Value.pointer _) rfl) ?_
  refine JL.go trivial (RX.nilCheck rfl) ?_
  refine JL.go trivial (RX.fieldAddr rfl fo66_1 rfl) ?_
  refine JL.go trivial (by first | exact RX.load H rfl (i := 0) rfl rfl one57) ?_
  refine JL.does trivial (EX.call rfl cl37 rfl ((Keys_b H))) ?_
  rintro _ w ⟨bm, rfl, H⟩
  refine JL.does trivial (EX.call rfl cl36 rfl ((Sorted_b (X := [[(bm, cel [.map (some s.mb)] 57)], s.tb t 1, s.mp, s.ts]) (F := F) (Sx := fun xs => xs.Perm s.keys) cl50 (fun l A G w hY hA H => keys1_b (SlAt.here rfl) (by simp [TS.mp]) ok.born ok.nd (by have := ok.len; simpa [TS.keys] using this) hY hA H) (fun xs h => by rw [h.length_eq]; exact ok.len) H))) ?_
  rintro _ w ⟨xs, p, c, sl, rfl, hS, ho, H⟩
  refine JL.does trivial (EX.call rfl cl35 rfl ((Values_b H))) ?_
  rintro _ w ⟨bs, rfl, H⟩
  refine JL.go trivial (RX.assignv (v := Value.func _ _ _) rfl) ?_
  refine JL.nil ?_
  refine J.unlock muLib Tryd.func22 H (i := 3) rfl rfl (unl1 rfl rfl ) ?_
  intro w H
  exact ⟨_, rfl, bs, sorted xs, p, c, sl, rfl, (sorted_perm xs).trans hS, sorted_le xs, ho, (((H.pull 2 rfl).drop))⟩
end Go.Proofs.YtmppcnbkfjeabaaDoor
