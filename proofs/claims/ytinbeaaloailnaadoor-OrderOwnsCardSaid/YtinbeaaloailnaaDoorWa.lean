/- Copies with spare room; Blue. -/
import Derived.Test.YtinbeaaloailnaaDoorOa
namespace Go.Proofs.YtinbeaaloailnaaDoor
open Go Go.Eng
set_option maxRecDepth 100000
set_option linter.unusedVariables false
set_option linter.unusedSimpArgs false
theorem cl20 : callable Tryd.prog 20 = true := by kernel_rfl
theorem cl22 : callable Tryd.prog 22 = true := by kernel_rfl
theorem cl24 : callable Tryd.prog 24 = true := by kernel_rfl

def LCopyC (t : Tr) : Prop := t.parts ≤ 4194304 → ∀ (w0 w : World) (F : List Seg) (vs : List Value), Hp w0 w F → t.Is F vs →
  Ret Tryd.prog 20 [.agg vs.toArray] w fun v w' => ∃ vs' s, v = .agg vs'.toArray ∧ t.Own vs' s ∧ Hp w0 w' (s :: F)

theorem Blue_b {w0 w : World} {F : List Seg} (H : Hp w0 w F) {nn : Int} {t : Tr} {vs : List Value} (ht : t.Is F vs) (hp : t.parts ≤ 4194304) : Ret Tryd.prog 22 [.int .i64 nn, .agg vs.toArray] w fun v w' => ∃ vs' s, v = .agg vs'.toArray ∧ (Tr.node 4 nn [t]).Own vs' s ∧ Hp w0 w' (s :: F) := by
  refine Calls.of_J (n := 10) Tryd.func22 rfl rfl rfl ?_
  refine J.seq ?_
  obtain ⟨k, n, p, m, c, rfl⟩ := ht.shape
  refine J.region ?_
  refine JL.does trivial (EX.box (v := Value.agg _) H rfl rfl) ?_
  rintro _ w ⟨b1, rfl, H⟩
  refine JL.does trivial (EX.alloc H zr25 rfl) ?_
  rintro _ w ⟨b2, rfl, H⟩
  refine JL.nil ?_
  refine J.seq ?_
  refine J.region ?_
  refine JL.go trivial (RX.movev (v := Value.int _ _) rfl) ?_
  refine JL.go trivial (RX.loadAgg H rfl (i := 1) (vs := tv k n p m c) rfl rfl ag25) ?_
  refine JL.does trivial (EX.call rfl cl41 rfl ((copied_b t hp _ _ _ _ H ht.cons.cons))) ?_
  rintro _ w ⟨vs1, s1, rfl, ho1, H⟩
  obtain ⟨k2, n2, p2, m2, c2, rfl⟩ := ho1.shape
  refine JL.does trivial (EX.buildSlice (pv := [(0, .agg (tv k2 n2 p2 m2 c2).toArray)]) (l := tv k2 n2 p2 m2 c2) (e := 25) H rfl (by kernel_rfl)) ?_
  rintro _ w ⟨bb, rfl, H⟩
  refine JL.go trivial (RX.build (pv := [(0, .int .i64 4), (1, .int .i64 nn), (2, .slice (some ⟨bb, 0, none⟩) 1 1)]) (res := tv 4 nn (some ⟨bb, 0, none⟩) 1 1) rfl (by kernel_rfl)) ?_
  refine JL.does trivial (EX.storeAgg H rfl rfl (i := 2) (vs := tv 4 nn (some ⟨bb, 0, none⟩) 1 1) (l' := tv 4 nn (some ⟨bb, 0, none⟩) 1 1) rfl tv_cell (by simp) sz25 rfl rfl) ?_
  rintro _ w H
  refine JL.nil ?_
  refine J.retc Tryd.func22 rfl H rfl (i := 2) (vs := tv 4 nn (some ⟨bb, 0, none⟩) 1 1) rfl rfl ag25 ?_
  exact ⟨_, rfl, _, [(bb, cel (tv k2 n2 p2 m2 c2) 25)] ++ s1, rfl, Tr.Own.mk (OwnSl.all rfl) (KidsOwn.one ho1), (((H.pull 2 rfl).drop.pull 2 rfl).drop).join⟩
theorem lcopied_step {k n : Int} {ks : List Tr} (ih : ∀ t, t.parts < (Tr.node k n ks).parts → LCopyC t) (hp : (Tr.node k n ks).parts ≤ 4194304) {w0 w : World} {F : List Seg} (H : Hp w0 w F) {p : Option Addr} {c : Nat} {xs : List Value} (hs : SlAt F p xs) (hk : KidsIs F ks xs) : Ret Tryd.prog 20 [.agg (tv k n p ks.length c).toArray] w fun v w' => ∃ vs' s, v = .agg vs'.toArray ∧ (Tr.node k n ks).Own vs' s ∧ Hp w0 w' (s :: F) := by
  refine Calls.of_J (n := 44) Tryd.func20 rfl rfl rfl ?_
  refine J.seq ?_
  have hkl := partsL_len ks
  have hpp : (Tr.node k n ks).parts = 1 + partsL ks := by rw [Tr.parts]
  refine J.region ?_
  refine JL.does trivial (EX.box (v := Value.agg _) H rfl rfl) ?_
  rintro _ w ⟨b1, rfl, H⟩
  refine JL.does trivial (EX.alloc H zr25 rfl) ?_
  rintro _ w ⟨b2, rfl, H⟩
  refine JL.nil ?_
  refine J.seq ?_
  refine J.region ?_
  refine JL.go trivial (RX.fieldAddr rfl fo25_0 rfl) ?_
  refine JL.go trivial (RX.load H rfl (i := 1) (v := .int .i64 k) rfl rfl one3) ?_
  refine JL.go trivial (RX.fieldAddr rfl fo25_1 rfl) ?_
  refine JL.go trivial (RX.load H rfl (i := 1) (v := .int .i64 n) rfl rfl one3) ?_
  refine JL.go trivial (RX.build (pv := [(0, .int .i64 k), (1, .int .i64 n)]) (res := tv k n none 0 0) rfl (by kernel_rfl)) ?_
  refine JL.does trivial (EX.alloc H zr25 rfl) ?_
  rintro _ w ⟨b3, rfl, H⟩
  refine JL.does trivial (EX.storeAgg H rfl rfl (i := 0) (vs := tv k n none 0 0) (l' := tv k n none 0 0) rfl tv_cell (by simp) sz25 rfl rfl) ?_
  rintro _ w H
  refine JL.nil ?_
  refine J.seq ?_
  refine J.seq ?_
  refine J.region ?_
  refine JL.go trivial (RX.fieldAddr rfl fo25_2 rfl) ?_
  refine JL.go trivial (RX.load H rfl (i := 2) (v := .slice p ks.length c) rfl rfl one23) ?_
  refine JL.go trivial (RX.len_slice rfl (by rw [sl23]; rfl) rfl) ?_
  refine JL.go trivial (RX.eq rfl rfl) ?_
  refine JL.nil ?_
  refine J.cond_d rfl (fun h0 => ?_) (fun h0 => ?_)
  · skip
    obtain rfl : ks = [] := List.eq_nil_of_length_eq_zero (by omega)
    refine J.seq ?_
    refine J.region ?_
    refine JL.go trivial (RX.loadAgg H rfl (i := 0) (vs := tv k n none 0 0) rfl rfl ag25) ?_
    refine JL.does trivial (EX.storeAgg H rfl rfl (i := 1) (vs := tv k n none 0 0) (l' := tv k n none 0 0) rfl tv_cell (by simp) sz25 rfl rfl) ?_
    rintro _ w H
    refine JL.nil ?_
    first
    | refine J.retc Tryd.func20 rfl H rfl (i := 1) (vs := tv k n none 0 0) rfl rfl ag25 ?_
    | refine J.retc Tryd.func20 rfl H rfl (i := 2) (vs := tv k n (some ⟨g, 0, none⟩) ks.length c4) rfl rfl ag25 ?_
    exact ⟨_, rfl, _, [], rfl, Tr.Own.leaf, H.drop.drop.drop.nil⟩
  · skip
    refine J.skip ?_
    refine J.seq ?_
    refine J.region ?_
    refine JL.does trivial (EX.buildSlice0 H elO) ?_
    rintro _ w ⟨bo, rfl, H⟩
    refine JL.go trivial (RX.assignv (v := Value.slice _ _ _) rfl) ?_
    refine JL.nil ?_
    replace H := ((H.pull 3 rfl).pull 3 rfl).pull 3 rfl
    refine J.seq ?_
    refine J.seq ?_
    refine J.region ?_
    refine JL.go trivial (RX.fieldAddr rfl fo25_2 rfl) ?_
    refine JL.go trivial (RX.load H rfl (i := 2) (v := .slice p ks.length c) rfl rfl one23) ?_
    refine JL.go trivial (RX.len_slice rfl (by rw [sl23]; rfl) rfl) ?_
    refine JL.go trivial (RX.move) ?_
    refine JL.nil ?_
    refine J.block ?_
    refine J.loop (ι := Nat × Option Addr × Nat × List Value × Seg × Seg) (S := fun z => [(4, .slice z.2.1 z.1 z.2.2.1), (22, .int .i64 (z.1 : Nat))]) (Φ := fun z w => z.1 ≤ ks.length ∧ OwnSl 25 3 z.2.1 z.1 z.2.2.1 z.2.2.2.1 z.2.2.2.2.1 ∧ KidsOwn (ks.take z.1) z.2.2.2.1 z.2.2.2.2.2 ∧ Hp w0 w ([(b3, cel (tv k n none 0 0) 25)] :: [(b2, cel (tv 0 0 none 0 0) 25)] :: [(b1, cel (tv k n p ks.length c) 25)] :: z.2.2.2.2.1 :: z.2.2.2.2.2 :: F)) (μ := fun z => ks.length - z.1) (C := [(1, _), (2, _), (3, _), (20, _), (21, _)]) (0, some ⟨bo, 0, none⟩, 0, [], [(bo, cel [] 25)], []) ⟨rfl, rfl, rfl, rfl, rfl, trivial⟩ ⟨rfl, rfl, trivial⟩ ?_ ?_
    · exact ⟨by simp, OwnSl.empty, KidsOwn.nil, ((((H.nil.pull 4 rfl).pull 4 rfl).pull 4 rfl).pull 4 rfl)⟩
    clear H
    rintro ⟨i, q, c2, ys, sl, ss⟩ ρ w ⟨hi, ho, hko, H⟩ IH
    simp only at hi ho hko H
    dsimp only
    refine J.seq ?_
    refine J.region ?_
    refine JL.go trivial (RX.lt rfl rfl) ?_
    refine JL.nil ?_
    refine J.seq ?_
    refine J.cond_d rfl (fun hlt => ?_) (fun hlt => ?_)
    · skip
      obtain ⟨t1, ht1⟩ : ∃ t1, ks[i]? = some t1 := ⟨_, List.getElem?_eq_getElem (by omega)⟩
      have htp := kid_lt (k := k) (n := n) ht1
      obtain ⟨a1, ha1, hi1⟩ := hk.get ht1
      obtain ⟨k1, n1, p1, m1, c1, rfl⟩ := hi1.shape
      have hxl := hk.len
      obtain ⟨pb, po, rfl⟩ := spot_some hs (by omega)
      refine J.skip ?_
      refine J.seq ?_
      refine J.block ?_
      refine J.seq ?_
      refine J.region ?_
      refine JL.go trivial (RX.indexAddr rfl rfl sl23 (by omega) (by omega) (o' := po + i * 3) (by omega)) ?_
      refine JL.go trivial (RX.loadAggS H hs.cons.cons.cons.cons.cons rfl (j := i * 3) (by omega) (vs := tv k1 n1 p1 m1 c1) ha1 ag25) ?_
      refine JL.does trivial (EX.alloc H zr25 rfl) ?_
      rintro _ w ⟨b6, rfl, H⟩
      refine JL.does trivial (EX.storeAgg H rfl rfl (i := 0) (vs := tv k1 n1 p1 m1 c1) (l' := tv k1 n1 p1 m1 c1) rfl tv_cell (by simp) sz25 rfl rfl) ?_
      rintro _ w H
      refine JL.nil ?_
      refine J.seq ?_
      refine J.region ?_
      refine JL.go trivial (RX.loadAgg H rfl (i := 0) (vs := tv k1 n1 p1 m1 c1) rfl rfl ag25) ?_
      refine JL.does trivial (EX.call rfl cl20 rfl ((ih t1 htp (by omega) _ _ _ _ H hi1.cons.cons.cons.cons.cons.cons))) ?_
      rintro _ w ⟨vs1, s1, rfl, ho1, H⟩
      obtain ⟨k2, n2, p2, m2, c3, rfl⟩ := ho1.shape
      refine JL.does trivial (EX.alloc H zr25 rfl) ?_
      rintro _ w ⟨b7, rfl, H⟩
      refine JL.does trivial (EX.storeAgg H rfl rfl (i := 0) (vs := tv k2 n2 p2 m2 c3) (l' := tv k2 n2 p2 m2 c3) rfl tv_cell (by simp) sz25 rfl rfl) ?_
      rintro _ w H
      refine JL.nil ?_
      refine J.region ?_
      refine JL.go trivial (RX.movev (v := Value.slice _ _ _) rfl) ?_
      refine JL.go trivial (RX.loadAgg H rfl (i := 0) (vs := tv k2 n2 p2 m2 c3) rfl rfl ag25) ?_
      refine JL.does trivial (EX.buildSlice (pv := [(0, .agg (tv k2 n2 p2 m2 c3).toArray)]) (l := tv k2 n2 p2 m2 c3) (e := 25) H rfl (by kernel_rfl)) ?_
      rintro _ w ⟨bb, rfl, H⟩
      refine JL.does trivial (EX.append (ys := tv k2 n2 p2 m2 c3) (L' := fun s' => [(bb, cel (tv k2 n2 p2 m2 c3) 25)] :: [(b7, cel (tv k2 n2 p2 m2 c3) 25)] :: s1 :: [(b6, cel (tv k1 n1 p1 m1 c1) 25)] :: [(b3, cel (tv k n none 0 0) 25)] :: [(b2, cel (tv 0 0 none 0 0) 25)] :: [(b1, cel (tv k n (some ⟨pb, po, none⟩) ks.length c) 25)] :: s' :: ss :: F) H elO rfl rfl (i := 7) rfl ho (SlAt.here rfl) rfl tv_cell (by decide) (by omega) (by omega) (fun _ => rfl)) ?_
      rintro _ w ⟨q2, c4, sl2, rfl, ho2, H⟩
      refine JL.go trivial (RX.assignv (v := Value.slice _ _ _) rfl) ?_
      refine JL.nil ?_
      refine J.inBlock ?_
      refine J.region ?_
      refine JL.go trivial (RX.add rfl rfl (w_i64 (r := ((i + 1 : Nat) : Int)) (by omega) (by omega) (by omega))) ?_
      refine JL.go trivial (RX.movev (v := Value.int _ _) rfl) ?_
      refine JL.nil ?_
      have hko2 := hko.snoc ho1
      rw [← take_get ht1] at hko2
      have H1 := (H.drop.drop.pull 1 rfl).drop
      exact IH (i + 1, q2, c4, ys ++ tv k2 n2 p2 m2 c3, sl2, ss ++ s1) _ _ (by simp only; omega) ⟨rfl, rfl, rfl, rfl, rfl, trivial⟩ ⟨rfl, rfl, trivial⟩ ⟨by simp only; omega, ho2, hko2, ((((((H1.pull 5 rfl).join.pull 4 rfl).pull 4 rfl).pull 4 rfl).pull 4 rfl))⟩
    · skip
      have hil : i = ks.length := by omega
      subst hil
      rw [List.take_length] at hko
      refine J.exit rfl ?_
      refine J.seq ?_
      refine J.region ?_
      refine JL.go trivial (RX.movev (v := Value.slice _ _ _) rfl) ?_
      refine JL.go trivial (RX.build (pv := [(0, .int .i64 77)]) (res := tv 77 0 none 0 0) rfl (by kernel_rfl)) ?_
      refine JL.does trivial (EX.buildSlice (pv := [(0, .agg (tv 77 0 none 0 0).toArray)]) (l := tv 77 0 none 0 0) (e := 25) H rfl (by kernel_rfl)) ?_
      rintro _ w ⟨bb, rfl, H⟩
      refine JL.does trivial (EX.append (ys := tv 77 0 none 0 0) (L' := fun s' => [(bb, cel (tv 77 0 none 0 0) 25)] :: [(b3, cel (tv k n none 0 0) 25)] :: [(b2, cel (tv 0 0 none 0 0) 25)] :: [(b1, cel (tv k n p ks.length c) 25)] :: s' :: ss :: F) H elO rfl rfl (i := 4) rfl ho (SlAt.here rfl) rfl tv_cell (by decide) (by omega) (by omega) (fun _ => rfl)) ?_
      rintro _ w ⟨q2, c4, sl2, rfl, ho2, H⟩
      obtain ⟨g, l, rfl, rfl, hn2, hl2, ht2⟩ := ho2.ptr (by omega)
      have hop := OwnSl.pop ho2 rfl
      refine JL.go trivial (RX.assignv (v := Value.slice _ _ _) rfl) ?_
      refine JL.nil ?_
      refine J.seq ?_
      refine J.region ?_
      refine JL.go trivial (RX.movev (v := Value.slice _ _ _) rfl) ?_
      refine JL.go trivial (RX.fieldAddr rfl fo25_2 rfl) ?_
      refine JL.go trivial (RX.load H rfl (i := 3) (v := .slice p ks.length c) rfl rfl one23) ?_
      refine JL.go trivial (RX.len_slice rfl (by rw [sl23]; rfl) rfl) ?_
      refine JL.go trivial (RX.slice_h rfl rfl sl23 ho2.spot (by omega) (by omega) (r := ks.length) (by omega)) ?_
      refine JL.go trivial (RX.fieldAddr rfl fo25_2 rfl) ?_
      refine JL.does trivial (EX.store (v := Value.slice _ _ _) H rfl rfl (i := 1) (l' := tv k n (some ⟨g, 0, none⟩) ks.length c4) rfl rfl (by simp) sz23 rfl rfl) ?_
      rintro _ w H
      refine JL.nil ?_
      refine J.seq ?_
      refine J.region ?_
      refine JL.go trivial (RX.loadAgg H rfl (i := 1) (vs := tv k n (some ⟨g, 0, none⟩) ks.length c4) rfl rfl ag25) ?_
      refine JL.does trivial (EX.storeAgg H rfl rfl (i := 2) (vs := tv k n (some ⟨g, 0, none⟩) ks.length c4) (l' := tv k n (some ⟨g, 0, none⟩) ks.length c4) rfl tv_cell (by simp) sz25 rfl rfl) ?_
      rintro _ w H
      refine JL.nil ?_
      first
      | refine J.retc Tryd.func20 rfl H rfl (i := 1) (vs := tv k n none 0 0) rfl rfl ag25 ?_
      | refine J.retc Tryd.func20 rfl H rfl (i := 2) (vs := tv k n (some ⟨g, 0, none⟩) ks.length c4) rfl rfl ag25 ?_
      exact ⟨_, rfl, _, [(g, cel l 25)] ++ ss, rfl, Tr.Own.mk hop hko, H.drop.drop.drop.drop.join⟩
theorem lcopied_b : ∀ t, LCopyC t := tr_ind fun t ih hp w0 w F vs H ht => by
  obtain ⟨k, n, ks⟩ := t
  rw [Tr.Is] at ht
  obtain ⟨p, c, xs, rfl, hs, hk⟩ := ht
  exact lcopied_step ih hp H hs hk

def SpoilC (t : Tr) : Prop := t.parts ≤ 4194304 → ∀ (w0 w : World) (F : List Seg) (vs : List Value) (s : Seg), t.Own vs s → Hp w0 w (s :: F) →
  Ret Tryd.prog 24 [.agg vs.toArray] w fun v w' => v = .tuple #[] ∧ ∃ s', Hp w0 w' (s' :: F)
theorem drop_kid {ks : List Tr} {ys : List Value} {ss : Seg} {i : Nat} {t : Tr} (h : KidsOwn (ks.drop i) (ys.drop (i * 3)) ss) (ht : ks[i]? = some t) :
    ∃ a b s1 s2, ss = s1 ++ s2 ∧ t.Own a s1 ∧ readN ys (i * 3) 3 = some a ∧ b = ys.drop ((i + 1) * 3) ∧ KidsOwn (ks.drop (i + 1)) b s2 := by
  rw [List.drop_eq_getElem_cons (List.getElem?_eq_some_iff.1 ht).1, (List.getElem?_eq_some_iff.1 ht).2, KidsOwn] at h
  obtain ⟨a, b, s1, s2, hx, hs, h1, h2⟩ := h
  refine ⟨a, b, s1, s2, hs, h1, ?_, ?_, h2⟩
  · unfold readN
    rw [hx, List.take_append_of_le_length (by rw [h1.len3]; omega), List.take_of_length_le (by rw [h1.len3]; omega)]
    simp [h1.len3]
  · rw [show (i + 1) * 3 = i * 3 + 3 by omega, ← List.drop_drop, hx, List.drop_left' h1.len3]
theorem drop_set {ys v : List Value} {i : Nat} (hv : v.length = 3) (h : i * 3 + 3 ≤ ys.length) : (setN ys (i * 3) v).drop ((i + 1) * 3) = ys.drop ((i + 1) * 3) := by
  rw [setN_at _ _ _ (by omega), List.append_assoc, show (i + 1) * 3 = i * 3 + 3 by omega, ← List.drop_drop, List.drop_left' (by rw [List.length_take]; omega), hv, List.drop_left' hv]

theorem spoil_step {k n : Int} {ks : List Tr} (ih : ∀ t, t.parts < (Tr.node k n ks).parts → SpoilC t) (hp : (Tr.node k n ks).parts ≤ 4194304) {w0 w : World} {F : List Seg} {p : Option Addr} {c : Nat} {xs : List Value} {sl ss : Seg} (ho : OwnSl 25 3 p ks.length c xs sl) (hk : KidsOwn ks xs ss) (H : Hp w0 w ((sl ++ ss) :: F)) : Ret Tryd.prog 24 [.agg (tv k n p ks.length c).toArray] w fun v w' => v = .tuple #[] ∧ ∃ s', Hp w0 w' (s' :: F) := by
  refine Calls.of_J (n := 21) Tryd.func24 rfl rfl rfl ?_
  refine J.seq ?_
  have hkl := partsL_len ks
  have hpp : (Tr.node k n ks).parts = 1 + partsL ks := by rw [Tr.parts]
  replace H := H.split
  refine J.region ?_
  refine JL.does trivial (EX.box (v := Value.agg _) H rfl rfl) ?_
  rintro _ w ⟨b1, rfl, H⟩
  refine JL.nil ?_
  refine J.seq ?_
  refine J.region ?_
  refine JL.go trivial (RX.fieldAddr rfl fo25_2 rfl) ?_
  refine JL.go trivial (RX.load H rfl (i := 0) (v := .slice p ks.length c) rfl rfl one23) ?_
  refine JL.go trivial (RX.len_slice rfl (by rw [sl23]; rfl) rfl) ?_
  refine JL.go trivial (RX.move) ?_
  refine JL.nil ?_
  refine J.block ?_
  refine J.loop (ι := Nat × Seg × Seg × Seg × List Value) (S := fun z => [(6, .int .i64 (z.1 : Nat))]) (Φ := fun z w => z.1 ≤ ks.length ∧ OwnSl 25 3 p ks.length c z.2.2.2.2 z.2.1 ∧ KidsOwn (ks.drop z.1) (z.2.2.2.2.drop (z.1 * 3)) z.2.2.2.1 ∧ Hp w0 w ([(b1, cel (tv k n p ks.length c) 25)] :: z.2.1 :: z.2.2.1 :: z.2.2.2.1 :: F)) (μ := fun z => ks.length - z.1) (C := [(1, _), (5, _)]) (0, sl, [], ss, xs) ⟨rfl, rfl, trivial⟩ ⟨rfl, trivial⟩ ?_ ?_
  · exact ⟨by simp, ho, by simpa using hk, (H.nil.pull 2 rfl).pull 2 rfl⟩
  clear H ho hk
  rintro ⟨i, sl1, gs, ss1, ys⟩ ρ w ⟨hi, ho, hk, H⟩ IH
  simp only at hi ho hk H
  dsimp only
  refine J.seq ?_
  refine J.region ?_
  refine JL.go trivial (RX.lt rfl rfl) ?_
  refine JL.nil ?_
  refine J.seq ?_
  refine J.cond_d rfl (fun hlt => ?_) (fun hlt => ?_)
  · skip
    obtain ⟨t1, ht1⟩ : ∃ t1, ks[i]? = some t1 := ⟨_, List.getElem?_eq_getElem (by omega)⟩
    have htp := kid_lt (k := k) (n := n) ht1
    obtain ⟨a, b, s1, s2, hss, h1, ha, hb, h2⟩ := drop_kid hk ht1
    subst hss
    obtain ⟨g, l, hp2, hsl, hn2, hl2, ht2⟩ := ho.ptr (by omega)
    subst hp2 hsl
    have hyl := ho.1
    replace H := (H.pull 3 rfl).split
    refine J.skip ?_
    refine J.seq ?_
    refine J.block ?_
    refine J.seq ?_
    refine J.region ?_
    refine JL.go trivial (RX.movev (v := Value.int _ _) rfl) ?_
    refine JL.go trivial (RX.assignv (v := Value.int _ _) rfl) ?_
    refine JL.nil ?_
    refine J.seq ?_
    refine J.region ?_
    refine JL.go trivial (RX.fieldAddr rfl fo25_2 rfl) ?_
    refine JL.go trivial (RX.load H rfl (i := 2) (v := .slice (some ⟨g, 0, none⟩) ks.length c) rfl rfl one23) ?_
    refine JL.go trivial (RX.movev (v := Value.int _ _) rfl) ?_
    refine JL.go trivial (RX.indexAddr rfl rfl sl23 (by omega) (by omega) (o' := i * 3) (by omega)) ?_
    refine JL.go trivial (RX.loadAggS H (SlAt.here ht2).cons.cons.cons rfl (j := i * 3) (by omega) (vs := a) ha ag25) ?_
    refine JL.does trivial (EX.call rfl cl24 rfl ((ih t1 htp (by omega) _ _ _ _ s1 h1 H))) ?_
    rintro _ w ⟨rfl, g1, H⟩
    refine JL.nil ?_
    refine J.region ?_
    refine JL.go trivial (RX.fieldAddr rfl fo25_2 rfl) ?_
    refine JL.go trivial (RX.load H rfl (i := 2) (v := .slice (some ⟨g, 0, none⟩) ks.length c) rfl rfl one23) ?_
    refine JL.go trivial (RX.movev (v := Value.int _ _) rfl) ?_
    refine JL.go trivial (RX.build (pv := [(0, .int .i64 99)]) (res := tv 99 0 none 0 0) rfl (by kernel_rfl)) ?_
    refine JL.go trivial (RX.indexAddr rfl rfl sl23 (by omega) (by omega) (o' := i * 3) (by omega)) ?_
    refine JL.does trivial (EX.storeAgg H rfl rfl (i := 3) (vs := tv 99 0 none 0 0) (l' := setN l (i * 3) (tv 99 0 none 0 0)) rfl tv_cell (by simp only [List.length_cons, List.length_nil]; omega) sz25 rfl rfl) ?_
    rintro _ w H
    refine JL.nil ?_
    refine J.inBlock ?_
    refine J.region ?_
    refine JL.go trivial (RX.add rfl rfl (w_i64 (r := ((i + 1 : Nat) : Int)) (by omega) (by omega) (by omega))) ?_
    refine JL.go trivial (RX.movev (v := Value.int _ _) rfl) ?_
    refine JL.nil ?_
    exact IH (i + 1, [(g, cel (setN l (i * 3) (tv 99 0 none 0 0)) 25)], g1 ++ gs, s2, setN ys (i * 3) (tv 99 0 none 0 0)) _ _ (by simp only; omega) ⟨rfl, rfl, trivial⟩ ⟨rfl, trivial⟩ ⟨by simp only; omega, ho.setN, by simp only; rw [drop_set rfl (by omega), ← hb]; exact h2, (((((H.pull 4 rfl).pull 1 rfl).join).pull 3 rfl).pull 3 rfl)⟩
  · skip
    refine J.exit rfl ?_
    refine J.end0 Tryd.func24 rfl ?_
    exact ⟨_, rfl, rfl, _, H.drop.drop.drop⟩
theorem spoil_b : ∀ t, SpoilC t := tr_ind fun t ih hp w0 w F vs s ht H => by
  obtain ⟨k, n, ks⟩ := t
  obtain ⟨p, c, xs, sl, ss, rfl, ho, hk, rfl⟩ := ht.open_
  exact spoil_step ih hp ho hk H
theorem wide_sm {t : Tr} (h : t.parts ≤ 4194304) : t.wide := wide_small _ t (Nat.le_refl _) h
theorem is_two {L : List Seg} {a b : Tr} {va vb : List Value} {q : Nat} {s : Seg} (ha : a.Is L va) (hb : b.Is L vb) (hs : s = [(q, cel (va ++ vb) 25)]) : (Tr.node 3 0 [a, b]).Is (s :: L) (tv 3 0 (some ⟨q, 0, none⟩) 2 2) := by
  subst hs
  rw [Tr.Is]
  exact ⟨some ⟨q, 0, none⟩, 2, va ++ vb, rfl, SlAt.here List.take_length, (KidsIs.one ha.cons).app (KidsIs.one hb.cons)⟩
theorem is_one {L : List Seg} {a : Tr} {n : Int} {va : List Value} {q : Nat} {s : Seg} (ha : a.Is L va) (hs : s = [(q, cel va 25)]) : (Tr.node 4 n [a]).Is (s :: L) (tv 4 n (some ⟨q, 0, none⟩) 1 1) := by
  subst hs
  rw [Tr.Is]
  exact ⟨some ⟨q, 0, none⟩, 1, va, rfl, SlAt.here List.take_length, KidsIs.one ha.cons⟩
set_option maxHeartbeats 1600000 in
theorem OrderOwns_b {w0 w : World} {F : List Seg} (H : Hp w0 w F) {E : Nat → Value} {Q : Nat → Addr} (hE : EQ F E Q) (hg : GTab F) {ta tb : Tr} {va vb : List Value} (ha : ta.Is F va) (hb : tb.Is F vb) (hwa : ta.wide) (hwb : tb.wide) {nn : Int} : Ret Tryd.prog 6 [.agg va.toArray, .agg vb.toArray, .int .i64 nn] w fun v w' => v = .bool true ∧ Hp w0 w' F := by
  refine Calls.of_J (n := 147) Tryd.func6 rfl rfl rfl ?_
  refine J.seq ?_
  obtain ⟨ka, na, pa, ma, ca, rfl⟩ := ha.shape
  obtain ⟨kb, nb, pb, mb, cb, rfl⟩ := hb.shape
  refine J.region ?_
  refine JL.does trivial (EX.box (v := Value.agg _) H rfl rfl) ?_
  rintro _ w ⟨b1, rfl, H⟩
  refine JL.does trivial (EX.box (v := Value.agg _) H rfl rfl) ?_
  rintro _ w ⟨b2, rfl, H⟩
  refine JL.go trivial (RX.assign) ?_
  refine JL.nil ?_
  refine J.seq ?_
  refine J.region ?_
  refine JL.does trivial (EX.call rfl cl9 rfl ((lives_b H hE.b.cons.cons hg.cons.cons))) ?_
  rintro _ w ⟨rfl, H⟩
  refine JL.go trivial (RX.assignv (v := Value.bool _) rfl) ?_
  refine JL.nil ?_
  refine J.seq ?_
  refine J.seq ?_
  refine J.region ?_
  refine JL.go trivial (RX.movev (v := Value.bool _) rfl) ?_
  refine JL.go trivial (RX.not rfl) ?_
  refine JL.go trivial (RX.movev (v := Value.bool _) rfl) ?_
  refine JL.go ⟨_, rfl, rfl⟩ (RX.loadAgg H rfl (i := 1) (vs := tv ka na pa ma ca) rfl rfl ag25) ?_
  refine JL.does ⟨_, rfl, rfl⟩ (EX.call rfl cl15 rfl ((large_b H ha.cons.cons hwa))) ?_
  rintro _ w ⟨rfl, H⟩
  refine JL.go trivial (RX.pick_f rfl rfl) ?_
  refine JL.go trivial (RX.movev (v := Value.bool _) rfl) ?_
  refine JL.splitS 31 rfl (fun hla => ?_) (fun hla => ?_)
  · skip
    first | have hlap := of_decide_eq_true hla | skip
    refine JL.no ⟨_, rfl, gno hla⟩ ?_
    refine JL.no ⟨_, rfl, gno hla⟩ ?_
    refine JL.go trivial (RX.pick_t rfl hla) ?_
    refine JL.nil ?_
    refine J.cond_t rfl rfl ?_
    refine J.seq ?_
    refine J.region ?_
    refine JL.go trivial (RX.movev (v := Value.bool _) rfl) ?_
    refine JL.go trivial (RX.assignv (v := Value.bool _) rfl) ?_
    refine JL.nil ?_
    refine J.ret1 (v := Value.bool _) Tryd.func6 rfl rfl ?_
    exact ⟨_, rfl, rfl, H.drop.drop⟩
  · skip
    first | have hlap := of_decide_eq_false hla | skip
    refine JL.go ⟨_, rfl, hla⟩ (RX.loadAgg H rfl (i := 0) (vs := tv kb nb pb mb cb) rfl rfl ag25) ?_
    refine JL.does ⟨_, rfl, hla⟩ (EX.call rfl cl15 rfl ((large_b H hb.cons.cons hwb))) ?_
    rintro _ w ⟨rfl, H⟩
    refine JL.go trivial (RX.pick_f rfl hla) ?_
    refine JL.nil ?_
    refine J.cond_d rfl (fun hlb => ?_) (fun hlb => ?_)
    · skip
      refine J.seq ?_
      refine J.region ?_
      refine JL.go trivial (RX.movev (v := Value.bool _) rfl) ?_
      refine JL.go trivial (RX.assignv (v := Value.bool _) rfl) ?_
      refine JL.nil ?_
      refine J.ret1 (v := Value.bool _) Tryd.func6 rfl rfl ?_
      exact ⟨_, rfl, rfl, H.drop.drop⟩
    · skip
      have hpa : ta.parts ≤ 4500 := by omega
      have hpb : tb.parts ≤ 4500 := by omega
      refine J.skip ?_
      refine J.seq ?_
      refine J.join (ι := Nat × Nat × List Value × List Value × Seg × Seg) (fun z => [(8, .pointer (some ⟨z.1, 0, none⟩)), (9, .pointer (some ⟨z.2.1, 0, none⟩))]) (fun z w => ta.Own z.2.2.1 z.2.2.2.2.1 ∧ tb.Own z.2.2.2.1 z.2.2.2.2.2 ∧ Hp w0 w ([(z.1, cel (z.2.2.1) 25)] :: [(z.2.1, cel (z.2.2.2.1) 25)] :: z.2.2.2.2.1 :: z.2.2.2.2.2 :: [(b2, cel (tv kb nb pb mb cb) 25)] :: [(b1, cel (tv ka na pa ma ca) 25)] :: F)) [(2, _), (3, _), (4, _)] ⟨rfl, rfl, rfl, trivial⟩ ?_ ?_
      rotate_left
      · skip
        intro k2 hk2
        refine J.held (fun w => Hp w0 w ([(b2, cel (tv kb nb pb mb cb) 25)] :: [(b1, cel (tv ka na pa ma ca) 25)] :: F)) hmix fun w hs => ?_
        replace H := H.same hs; clear hs
        have hS : Hp w0 w ([(b2, cel (tv kb nb pb mb cb) 25)] :: [(b1, cel (tv ka na pa ma ca) 25)] :: F) := by first | exact H | exact H.drop | exact H.drop.drop | exact H.drop.drop.drop | exact H.drop.drop.drop.drop | exact H.drop.drop.drop.drop.drop | exact H.drop.drop.drop.drop.drop.drop | exact H.drop.drop.drop.drop.drop.drop.drop | exact H.drop.drop.drop.drop.drop.drop.drop.drop
        refine JH.take 0 (listed' := [true, false, false, false, false, false, false, false]) rfl (by kernel_rfl) (by kernel_rfl) (by kernel_rfl) rfl trivial (fun w H => RX.loadAgg H rfl (i := 1) (vs := tv ka na pa ma ca) rfl rfl ag25) hS ?_
        refine JH.take 2 (listed' := [true, false, true, false, false, false, false, false]) rfl (by kernel_rfl) (by kernel_rfl) (by kernel_rfl) rfl trivial (fun w H => RX.loadAgg H rfl (i := 0) (vs := tv kb nb pb mb cb) rfl rfl ag25) hS ?_
        refine JH.all [1, 4, 5] (by kernel_rfl) (by decide) ?_
        refine ⟨?_, ?_, ?_⟩
        · skip
          refine JHO.does (listed' := [true, true, true, false, false, false, false, false]) rfl rfl trivial (EX.call rfl cl20 rfl ((by first | exact lcopied_b ta (by omega) _ _ _ _ H (Tr.Is.cons (Tr.Is.cons (ha))) | exact lcopied_b ta (by omega) _ _ _ _ H (Tr.Is.cons (Tr.Is.cons (Tr.Is.cons (ha)))) | exact lcopied_b ta (by omega) _ _ _ _ H (Tr.Is.cons (Tr.Is.cons (Tr.Is.cons (Tr.Is.cons (ha))))) | exact lcopied_b ta (by omega) _ _ _ _ H (Tr.Is.cons (Tr.Is.cons (Tr.Is.cons (Tr.Is.cons (Tr.Is.cons (ha))))))))) ?_
          rintro _ w ⟨vx, s1, rfl, ox, H⟩
          obtain ⟨kx, nx, px, mx, cx, rfl⟩ := ox.shape
          have hS : Hp w0 w ([(b2, cel (tv kb nb pb mb cb) 25)] :: [(b1, cel (tv ka na pa ma ca) 25)] :: F) := by first | exact H | exact H.drop | exact H.drop.drop | exact H.drop.drop.drop | exact H.drop.drop.drop.drop | exact H.drop.drop.drop.drop.drop | exact H.drop.drop.drop.drop.drop.drop | exact H.drop.drop.drop.drop.drop.drop.drop | exact H.drop.drop.drop.drop.drop.drop.drop.drop
          refine ⟨hS, ?_⟩
          refine JH.all [3, 4, 5] (by kernel_rfl) (by decide) ?_
          refine ⟨?_, ?_, ?_⟩
          · skip
            refine JHO.does (listed' := [true, true, true, true, false, false, false, false]) rfl rfl trivial (EX.call rfl cl20 rfl ((by first | exact lcopied_b tb (by omega) _ _ _ _ H (Tr.Is.cons (Tr.Is.cons (hb))) | exact lcopied_b tb (by omega) _ _ _ _ H (Tr.Is.cons (Tr.Is.cons (Tr.Is.cons (hb)))) | exact lcopied_b tb (by omega) _ _ _ _ H (Tr.Is.cons (Tr.Is.cons (Tr.Is.cons (Tr.Is.cons (hb))))) | exact lcopied_b tb (by omega) _ _ _ _ H (Tr.Is.cons (Tr.Is.cons (Tr.Is.cons (Tr.Is.cons (Tr.Is.cons (hb))))))))) ?_
            rintro _ w ⟨vy, s2, rfl, oy, H⟩
            obtain ⟨ky, ny, py, my, cy, rfl⟩ := oy.shape
            have hS : Hp w0 w ([(b2, cel (tv kb nb pb mb cb) 25)] :: [(b1, cel (tv ka na pa ma ca) 25)] :: F) := by first | exact H | exact H.drop | exact H.drop.drop | exact H.drop.drop.drop | exact H.drop.drop.drop.drop | exact H.drop.drop.drop.drop.drop | exact H.drop.drop.drop.drop.drop.drop | exact H.drop.drop.drop.drop.drop.drop.drop | exact H.drop.drop.drop.drop.drop.drop.drop.drop
            refine ⟨hS, ?_⟩
            refine JH.all [4, 5] (by kernel_rfl) (by decide) ?_
            refine ⟨?_, ?_⟩
            · skip
              refine JHO.does (listed' := [true, true, true, true, true, false, false, false]) rfl rfl trivial (EX.alloc H zr25 rfl) ?_
              rintro _ w ⟨b8, rfl, H⟩
              have hS : Hp w0 w ([(b2, cel (tv kb nb pb mb cb) 25)] :: [(b1, cel (tv ka na pa ma ca) 25)] :: F) := by first | exact H | exact H.drop | exact H.drop.drop | exact H.drop.drop.drop | exact H.drop.drop.drop.drop | exact H.drop.drop.drop.drop.drop | exact H.drop.drop.drop.drop.drop.drop | exact H.drop.drop.drop.drop.drop.drop.drop | exact H.drop.drop.drop.drop.drop.drop.drop.drop
              refine ⟨hS, ?_⟩
              refine JH.all [5] (by kernel_rfl) (by decide) ?_
              refine JHO.does (listed' := [true, true, true, true, true, true, false, false]) rfl rfl trivial (EX.alloc H zr25 rfl) ?_
              rintro _ w ⟨b9, rfl, H⟩
              have hS : Hp w0 w ([(b2, cel (tv kb nb pb mb cb) 25)] :: [(b1, cel (tv ka na pa ma ca) 25)] :: F) := by first | exact H | exact H.drop | exact H.drop.drop | exact H.drop.drop.drop | exact H.drop.drop.drop.drop | exact H.drop.drop.drop.drop.drop | exact H.drop.drop.drop.drop.drop.drop | exact H.drop.drop.drop.drop.drop.drop.drop | exact H.drop.drop.drop.drop.drop.drop.drop.drop
              refine ⟨hS, ?_⟩
              refine JH.all [6] (by kernel_rfl) (by decide) ?_
              refine JHO.does (listed' := [true, true, true, true, true, true, true, false]) rfl rfl trivial (by first | exact EX.storeAgg H rfl rfl (i := 0) rfl (by simp [isCell]) (by simp) sz25 rfl rfl | exact EX.storeAgg H rfl rfl (i := 1) rfl (by simp [isCell]) (by simp) sz25 rfl rfl | exact EX.storeAgg H rfl rfl (i := 2) rfl (by simp [isCell]) (by simp) sz25 rfl rfl | exact EX.storeAgg H rfl rfl (i := 3) rfl (by simp [isCell]) (by simp) sz25 rfl rfl | exact EX.storeAgg H rfl rfl (i := 4) rfl (by simp [isCell]) (by simp) sz25 rfl rfl | exact EX.storeAgg H rfl rfl (i := 5) rfl (by simp [isCell]) (by simp) sz25 rfl rfl | exact EX.storeAgg H rfl rfl (i := 6) rfl (by simp [isCell]) (by simp) sz25 rfl rfl | exact EX.storeAgg H rfl rfl (i := 7) rfl (by simp [isCell]) (by simp) sz25 rfl rfl | exact EX.storeAgg H rfl rfl (i := 8) rfl (by simp [isCell]) (by simp) sz25 rfl rfl | exact EX.storeAgg H rfl rfl (i := 9) rfl (by simp [isCell]) (by simp) sz25 rfl rfl | exact EX.storeAgg H rfl rfl (i := 10) rfl (by simp [isCell]) (by simp) sz25 rfl rfl | exact EX.storeAgg H rfl rfl (i := 11) rfl (by simp [isCell]) (by simp) sz25 rfl rfl | exact EX.storeAgg H rfl rfl (i := 12) rfl (by simp [isCell]) (by simp) sz25 rfl rfl | exact EX.storeAgg H rfl rfl (i := 13) rfl (by simp [isCell]) (by simp) sz25 rfl rfl | exact EX.storeAgg H rfl rfl (i := 14) rfl (by simp [isCell]) (by simp) sz25 rfl rfl | exact EX.storeAgg H rfl rfl (i := 15) rfl (by simp [isCell]) (by simp) sz25 rfl rfl) ?_
              rintro _ w H
              have hS : Hp w0 w ([(b2, cel (tv kb nb pb mb cb) 25)] :: [(b1, cel (tv ka na pa ma ca) 25)] :: F) := by first | exact H | exact H.drop | exact H.drop.drop | exact H.drop.drop.drop | exact H.drop.drop.drop.drop | exact H.drop.drop.drop.drop.drop | exact H.drop.drop.drop.drop.drop.drop | exact H.drop.drop.drop.drop.drop.drop.drop | exact H.drop.drop.drop.drop.drop.drop.drop.drop
              refine ⟨hS, ?_⟩
              refine JH.all [7] (by kernel_rfl) (by decide) ?_
              refine JHO.does (listed' := [true, true, true, true, true, true, true, true]) rfl rfl trivial (by first | exact EX.storeAgg H rfl rfl (i := 0) rfl (by simp [isCell]) (by simp) sz25 rfl rfl | exact EX.storeAgg H rfl rfl (i := 1) rfl (by simp [isCell]) (by simp) sz25 rfl rfl | exact EX.storeAgg H rfl rfl (i := 2) rfl (by simp [isCell]) (by simp) sz25 rfl rfl | exact EX.storeAgg H rfl rfl (i := 3) rfl (by simp [isCell]) (by simp) sz25 rfl rfl | exact EX.storeAgg H rfl rfl (i := 4) rfl (by simp [isCell]) (by simp) sz25 rfl rfl | exact EX.storeAgg H rfl rfl (i := 5) rfl (by simp [isCell]) (by simp) sz25 rfl rfl | exact EX.storeAgg H rfl rfl (i := 6) rfl (by simp [isCell]) (by simp) sz25 rfl rfl | exact EX.storeAgg H rfl rfl (i := 7) rfl (by simp [isCell]) (by simp) sz25 rfl rfl | exact EX.storeAgg H rfl rfl (i := 8) rfl (by simp [isCell]) (by simp) sz25 rfl rfl | exact EX.storeAgg H rfl rfl (i := 9) rfl (by simp [isCell]) (by simp) sz25 rfl rfl | exact EX.storeAgg H rfl rfl (i := 10) rfl (by simp [isCell]) (by simp) sz25 rfl rfl | exact EX.storeAgg H rfl rfl (i := 11) rfl (by simp [isCell]) (by simp) sz25 rfl rfl | exact EX.storeAgg H rfl rfl (i := 12) rfl (by simp [isCell]) (by simp) sz25 rfl rfl | exact EX.storeAgg H rfl rfl (i := 13) rfl (by simp [isCell]) (by simp) sz25 rfl rfl | exact EX.storeAgg H rfl rfl (i := 14) rfl (by simp [isCell]) (by simp) sz25 rfl rfl | exact EX.storeAgg H rfl rfl (i := 15) rfl (by simp [isCell]) (by simp) sz25 rfl rfl) ?_
              rintro _ w H
              have hS : Hp w0 w ([(b2, cel (tv kb nb pb mb cb) 25)] :: [(b1, cel (tv ka na pa ma ca) 25)] :: F) := by first | exact H | exact H.drop | exact H.drop.drop | exact H.drop.drop.drop | exact H.drop.drop.drop.drop | exact H.drop.drop.drop.drop.drop | exact H.drop.drop.drop.drop.drop.drop | exact H.drop.drop.drop.drop.drop.drop.drop | exact H.drop.drop.drop.drop.drop.drop.drop.drop
              refine ⟨hS, ?_⟩
              refine JH.done (by kernel_rfl) ?_
              exact hk2 (b8, b9, tv kx nx px mx cx, tv ky ny py my cy, s1, s2) _ _ ⟨rfl, rfl, rfl, trivial⟩ ⟨rfl, rfl, trivial⟩ ⟨ox, oy, (by first | exact ((((H.pull 0 rfl).pull 1 rfl).pull 2 rfl).pull 3 rfl) | exact ((((H.pull 0 rfl).pull 1 rfl).pull 3 rfl).pull 3 rfl) | exact ((((H.pull 0 rfl).pull 2 rfl).pull 2 rfl).pull 3 rfl) | exact ((((H.pull 0 rfl).pull 2 rfl).pull 3 rfl).pull 3 rfl) | exact ((((H.pull 0 rfl).pull 3 rfl).pull 2 rfl).pull 3 rfl) | exact ((((H.pull 0 rfl).pull 3 rfl).pull 3 rfl).pull 3 rfl) | exact ((((H.pull 1 rfl).pull 1 rfl).pull 2 rfl).pull 3 rfl) | exact ((((H.pull 1 rfl).pull 1 rfl).pull 3 rfl).pull 3 rfl) | exact ((((H.pull 1 rfl).pull 2 rfl).pull 2 rfl).pull 3 rfl) | exact ((((H.pull 1 rfl).pull 2 rfl).pull 3 rfl).pull 3 rfl) | exact ((((H.pull 1 rfl).pull 3 rfl).pull 2 rfl).pull 3 rfl) | exact ((((H.pull 1 rfl).pull 3 rfl).pull 3 rfl).pull 3 rfl) | exact ((((H.pull 2 rfl).pull 1 rfl).pull 2 rfl).pull 3 rfl) | exact ((((H.pull 2 rfl).pull 1 rfl).pull 3 rfl).pull 3 rfl) | exact ((((H.pull 2 rfl).pull 2 rfl).pull 2 rfl).pull 3 rfl) | exact ((((H.pull 2 rfl).pull 2 rfl).pull 3 rfl).pull 3 rfl) | exact ((((H.pull 2 rfl).pull 3 rfl).pull 2 rfl).pull 3 rfl) | exact ((((H.pull 2 rfl).pull 3 rfl).pull 3 rfl).pull 3 rfl) | exact ((((H.pull 3 rfl).pull 1 rfl).pull 2 rfl).pull 3 rfl) | exact ((((H.pull 3 rfl).pull 1 rfl).pull 3 rfl).pull 3 rfl) | exact ((((H.pull 3 rfl).pull 2 rfl).pull 2 rfl).pull 3 rfl) | exact ((((H.pull 3 rfl).pull 2 rfl).pull 3 rfl).pull 3 rfl) | exact ((((H.pull 3 rfl).pull 3 rfl).pull 2 rfl).pull 3 rfl) | exact ((((H.pull 3 rfl).pull 3 rfl).pull 3 rfl).pull 3 rfl))⟩
            · skip
              refine JHO.does (listed' := [true, true, true, true, false, true, false, false]) rfl rfl trivial (EX.alloc H zr25 rfl) ?_
              rintro _ w ⟨b9, rfl, H⟩
              have hS : Hp w0 w ([(b2, cel (tv kb nb pb mb cb) 25)] :: [(b1, cel (tv ka na pa ma ca) 25)] :: F) := by first | exact H | exact H.drop | exact H.drop.drop | exact H.drop.drop.drop | exact H.drop.drop.drop.drop | exact H.drop.drop.drop.drop.drop | exact H.drop.drop.drop.drop.drop.drop | exact H.drop.drop.drop.drop.drop.drop.drop | exact H.drop.drop.drop.drop.drop.drop.drop.drop
              refine ⟨hS, ?_⟩
              refine JH.all [4] (by kernel_rfl) (by decide) ?_
              refine JHO.does (listed' := [true, true, true, true, true, true, false, false]) rfl rfl trivial (EX.alloc H zr25 rfl) ?_
              rintro _ w ⟨b8, rfl, H⟩
              have hS : Hp w0 w ([(b2, cel (tv kb nb pb mb cb) 25)] :: [(b1, cel (tv ka na pa ma ca) 25)] :: F) := by first | exact H | exact H.drop | exact H.drop.drop | exact H.drop.drop.drop | exact H.drop.drop.drop.drop | exact H.drop.drop.drop.drop.drop | exact H.drop.drop.drop.drop.drop.drop | exact H.drop.drop.drop.drop.drop.drop.drop | exact H.drop.drop.drop.drop.drop.drop.drop.drop
              refine ⟨hS, ?_⟩
              refine JH.all [6] (by kernel_rfl) (by decide) ?_
              refine JHO.does (listed' := [true, true, true, true, true, true, true, false]) rfl rfl trivial (by first | exact EX.storeAgg H rfl rfl (i := 0) rfl (by simp [isCell]) (by simp) sz25 rfl rfl | exact EX.storeAgg H rfl rfl (i := 1) rfl (by simp [isCell]) (by simp) sz25 rfl rfl | exact EX.storeAgg H rfl rfl (i := 2) rfl (by simp [isCell]) (by simp) sz25 rfl rfl | exact EX.storeAgg H rfl rfl (i := 3) rfl (by simp [isCell]) (by simp) sz25 rfl rfl | exact EX.storeAgg H rfl rfl (i := 4) rfl (by simp [isCell]) (by simp) sz25 rfl rfl | exact EX.storeAgg H rfl rfl (i := 5) rfl (by simp [isCell]) (by simp) sz25 rfl rfl | exact EX.storeAgg H rfl rfl (i := 6) rfl (by simp [isCell]) (by simp) sz25 rfl rfl | exact EX.storeAgg H rfl rfl (i := 7) rfl (by simp [isCell]) (by simp) sz25 rfl rfl | exact EX.storeAgg H rfl rfl (i := 8) rfl (by simp [isCell]) (by simp) sz25 rfl rfl | exact EX.storeAgg H rfl rfl (i := 9) rfl (by simp [isCell]) (by simp) sz25 rfl rfl | exact EX.storeAgg H rfl rfl (i := 10) rfl (by simp [isCell]) (by simp) sz25 rfl rfl | exact EX.storeAgg H rfl rfl (i := 11) rfl (by simp [isCell]) (by simp) sz25 rfl rfl | exact EX.storeAgg H rfl rfl (i := 12) rfl (by simp [isCell]) (by simp) sz25 rfl rfl | exact EX.storeAgg H rfl rfl (i := 13) rfl (by simp [isCell]) (by simp) sz25 rfl rfl | exact EX.storeAgg H rfl rfl (i := 14) rfl (by simp [isCell]) (by simp) sz25 rfl rfl | exact EX.storeAgg H rfl rfl (i := 15) rfl (by simp [isCell]) (by simp) sz25 rfl rfl) ?_
              rintro _ w H
              have hS : Hp w0 w ([(b2, cel (tv kb nb pb mb cb) 25)] :: [(b1, cel (tv ka na pa ma ca) 25)] :: F) := by first | exact H | exact H.drop | exact H.drop.drop | exact H.drop.drop.drop | exact H.drop.drop.drop.drop | exact H.drop.drop.drop.drop.drop | exact H.drop.drop.drop.drop.drop.drop | exact H.drop.drop.drop.drop.drop.drop.drop | exact H.drop.drop.drop.drop.drop.drop.drop.drop
              refine ⟨hS, ?_⟩
              refine JH.all [7] (by kernel_rfl) (by decide) ?_
              refine JHO.does (listed' := [true, true, true, true, true, true, true, true]) rfl rfl trivial (by first | exact EX.storeAgg H rfl rfl (i := 0) rfl (by simp [isCell]) (by simp) sz25 rfl rfl | exact EX.storeAgg H rfl rfl (i := 1) rfl (by simp [isCell]) (by simp) sz25 rfl rfl | exact EX.storeAgg H rfl rfl (i := 2) rfl (by simp [isCell]) (by simp) sz25 rfl rfl | exact EX.storeAgg H rfl rfl (i := 3) rfl (by simp [isCell]) (by simp) sz25 rfl rfl | exact EX.storeAgg H rfl rfl (i := 4) rfl (by simp [isCell]) (by simp) sz25 rfl rfl | exact EX.storeAgg H rfl rfl (i := 5) rfl (by simp [isCell]) (by simp) sz25 rfl rfl | exact EX.storeAgg H rfl rfl (i := 6) rfl (by simp [isCell]) (by simp) sz25 rfl rfl | exact EX.storeAgg H rfl rfl (i := 7) rfl (by simp [isCell]) (by simp) sz25 rfl rfl | exact EX.storeAgg H rfl rfl (i := 8) rfl (by simp [isCell]) (by simp) sz25 rfl rfl | exact EX.storeAgg H rfl rfl (i := 9) rfl (by simp [isCell]) (by simp) sz25 rfl rfl | exact EX.storeAgg H rfl rfl (i := 10) rfl (by simp [isCell]) (by simp) sz25 rfl rfl | exact EX.storeAgg H rfl rfl (i := 11) rfl (by simp [isCell]) (by simp) sz25 rfl rfl | exact EX.storeAgg H rfl rfl (i := 12) rfl (by simp [isCell]) (by simp) sz25 rfl rfl | exact EX.storeAgg H rfl rfl (i := 13) rfl (by simp [isCell]) (by simp) sz25 rfl rfl | exact EX.storeAgg H rfl rfl (i := 14) rfl (by simp [isCell]) (by simp) sz25 rfl rfl | exact EX.storeAgg H rfl rfl (i := 15) rfl (by simp [isCell]) (by simp) sz25 rfl rfl) ?_
              rintro _ w H
              have hS : Hp w0 w ([(b2, cel (tv kb nb pb mb cb) 25)] :: [(b1, cel (tv ka na pa ma ca) 25)] :: F) := by first | exact H | exact H.drop | exact H.drop.drop | exact H.drop.drop.drop | exact H.drop.drop.drop.drop | exact H.drop.drop.drop.drop.drop | exact H.drop.drop.drop.drop.drop.drop | exact H.drop.drop.drop.drop.drop.drop.drop | exact H.drop.drop.drop.drop.drop.drop.drop.drop
              refine ⟨hS, ?_⟩
              refine JH.done (by kernel_rfl) ?_
              exact hk2 (b8, b9, tv kx nx px mx cx, tv ky ny py my cy, s1, s2) _ _ ⟨rfl, rfl, rfl, trivial⟩ ⟨rfl, rfl, trivial⟩ ⟨ox, oy, (by first | exact ((((H.pull 0 rfl).pull 1 rfl).pull 2 rfl).pull 3 rfl) | exact ((((H.pull 0 rfl).pull 1 rfl).pull 3 rfl).pull 3 rfl) | exact ((((H.pull 0 rfl).pull 2 rfl).pull 2 rfl).pull 3 rfl) | exact ((((H.pull 0 rfl).pull 2 rfl).pull 3 rfl).pull 3 rfl) | exact ((((H.pull 0 rfl).pull 3 rfl).pull 2 rfl).pull 3 rfl) | exact ((((H.pull 0 rfl).pull 3 rfl).pull 3 rfl).pull 3 rfl) | exact ((((H.pull 1 rfl).pull 1 rfl).pull 2 rfl).pull 3 rfl) | exact ((((H.pull 1 rfl).pull 1 rfl).pull 3 rfl).pull 3 rfl) | exact ((((H.pull 1 rfl).pull 2 rfl).pull 2 rfl).pull 3 rfl) | exact ((((H.pull 1 rfl).pull 2 rfl).pull 3 rfl).pull 3 rfl) | exact ((((H.pull 1 rfl).pull 3 rfl).pull 2 rfl).pull 3 rfl) | exact ((((H.pull 1 rfl).pull 3 rfl).pull 3 rfl).pull 3 rfl) | exact ((((H.pull 2 rfl).pull 1 rfl).pull 2 rfl).pull 3 rfl) | exact ((((H.pull 2 rfl).pull 1 rfl).pull 3 rfl).pull 3 rfl) | exact ((((H.pull 2 rfl).pull 2 rfl).pull 2 rfl).pull 3 rfl) | exact ((((H.pull 2 rfl).pull 2 rfl).pull 3 rfl).pull 3 rfl) | exact ((((H.pull 2 rfl).pull 3 rfl).pull 2 rfl).pull 3 rfl) | exact ((((H.pull 2 rfl).pull 3 rfl).pull 3 rfl).pull 3 rfl) | exact ((((H.pull 3 rfl).pull 1 rfl).pull 2 rfl).pull 3 rfl) | exact ((((H.pull 3 rfl).pull 1 rfl).pull 3 rfl).pull 3 rfl) | exact ((((H.pull 3 rfl).pull 2 rfl).pull 2 rfl).pull 3 rfl) | exact ((((H.pull 3 rfl).pull 2 rfl).pull 3 rfl).pull 3 rfl) | exact ((((H.pull 3 rfl).pull 3 rfl).pull 2 rfl).pull 3 rfl) | exact ((((H.pull 3 rfl).pull 3 rfl).pull 3 rfl).pull 3 rfl))⟩
          · skip
            refine JHO.does (listed' := [true, true, true, false, true, false, false, false]) rfl rfl trivial (EX.alloc H zr25 rfl) ?_
            rintro _ w ⟨b8, rfl, H⟩
            have hS : Hp w0 w ([(b2, cel (tv kb nb pb mb cb) 25)] :: [(b1, cel (tv ka na pa ma ca) 25)] :: F) := by first | exact H | exact H.drop | exact H.drop.drop | exact H.drop.drop.drop | exact H.drop.drop.drop.drop | exact H.drop.drop.drop.drop.drop | exact H.drop.drop.drop.drop.drop.drop | exact H.drop.drop.drop.drop.drop.drop.drop | exact H.drop.drop.drop.drop.drop.drop.drop.drop
            refine ⟨hS, ?_⟩
            refine JH.all [3, 5] (by kernel_rfl) (by decide) ?_
            refine ⟨?_, ?_⟩
            · skip
              refine JHO.does (listed' := [true, true, true, true, true, false, false, false]) rfl rfl trivial (EX.call rfl cl20 rfl ((by first | exact lcopied_b tb (by omega) _ _ _ _ H (Tr.Is.cons (Tr.Is.cons (hb))) | exact lcopied_b tb (by omega) _ _ _ _ H (Tr.Is.cons (Tr.Is.cons (Tr.Is.cons (hb)))) | exact lcopied_b tb (by omega) _ _ _ _ H (Tr.Is.cons (Tr.Is.cons (Tr.Is.cons (Tr.Is.cons (hb))))) | exact lcopied_b tb (by omega) _ _ _ _ H (Tr.Is.cons (Tr.Is.cons (Tr.Is.cons (Tr.Is.cons (Tr.Is.cons (hb))))))))) ?_
              rintro _ w ⟨vy, s2, rfl, oy, H⟩
              obtain ⟨ky, ny, py, my, cy, rfl⟩ := oy.shape
              have hS : Hp w0 w ([(b2, cel (tv kb nb pb mb cb) 25)] :: [(b1, cel (tv ka na pa ma ca) 25)] :: F) := by first | exact H | exact H.drop | exact H.drop.drop | exact H.drop.drop.drop | exact H.drop.drop.drop.drop | exact H.drop.drop.drop.drop.drop | exact H.drop.drop.drop.drop.drop.drop | exact H.drop.drop.drop.drop.drop.drop.drop | exact H.drop.drop.drop.drop.drop.drop.drop.drop
              refine ⟨hS, ?_⟩
              refine JH.all [5] (by kernel_rfl) (by decide) ?_
              refine JHO.does (listed' := [true, true, true, true, true, true, false, false]) rfl rfl trivial (EX.alloc H zr25 rfl) ?_
              rintro _ w ⟨b9, rfl, H⟩
              have hS : Hp w0 w ([(b2, cel (tv kb nb pb mb cb) 25)] :: [(b1, cel (tv ka na pa ma ca) 25)] :: F) := by first | exact H | exact H.drop | exact H.drop.drop | exact H.drop.drop.drop | exact H.drop.drop.drop.drop | exact H.drop.drop.drop.drop.drop | exact H.drop.drop.drop.drop.drop.drop | exact H.drop.drop.drop.drop.drop.drop.drop | exact H.drop.drop.drop.drop.drop.drop.drop.drop
              refine ⟨hS, ?_⟩
              refine JH.all [6] (by kernel_rfl) (by decide) ?_
              refine JHO.does (listed' := [true, true, true, true, true, true, true, false]) rfl rfl trivial (by first | exact EX.storeAgg H rfl rfl (i := 0) rfl (by simp [isCell]) (by simp) sz25 rfl rfl | exact EX.storeAgg H rfl rfl (i := 1) rfl (by simp [isCell]) (by simp) sz25 rfl rfl | exact EX.storeAgg H rfl rfl (i := 2) rfl (by simp [isCell]) (by simp) sz25 rfl rfl | exact EX.storeAgg H rfl rfl (i := 3) rfl (by simp [isCell]) (by simp) sz25 rfl rfl | exact EX.storeAgg H rfl rfl (i := 4) rfl (by simp [isCell]) (by simp) sz25 rfl rfl | exact EX.storeAgg H rfl rfl (i := 5) rfl (by simp [isCell]) (by simp) sz25 rfl rfl | exact EX.storeAgg H rfl rfl (i := 6) rfl (by simp [isCell]) (by simp) sz25 rfl rfl | exact EX.storeAgg H rfl rfl (i := 7) rfl (by simp [isCell]) (by simp) sz25 rfl rfl | exact EX.storeAgg H rfl rfl (i := 8) rfl (by simp [isCell]) (by simp) sz25 rfl rfl | exact EX.storeAgg H rfl rfl (i := 9) rfl (by simp [isCell]) (by simp) sz25 rfl rfl | exact EX.storeAgg H rfl rfl (i := 10) rfl (by simp [isCell]) (by simp) sz25 rfl rfl | exact EX.storeAgg H rfl rfl (i := 11) rfl (by simp [isCell]) (by simp) sz25 rfl rfl | exact EX.storeAgg H rfl rfl (i := 12) rfl (by simp [isCell]) (by simp) sz25 rfl rfl | exact EX.storeAgg H rfl rfl (i := 13) rfl (by simp [isCell]) (by simp) sz25 rfl rfl | exact EX.storeAgg H rfl rfl (i := 14) rfl (by simp [isCell]) (by simp) sz25 rfl rfl | exact EX.storeAgg H rfl rfl (i := 15) rfl (by simp [isCell]) (by simp) sz25 rfl rfl) ?_
              rintro _ w H
              have hS : Hp w0 w ([(b2, cel (tv kb nb pb mb cb) 25)] :: [(b1, cel (tv ka na pa ma ca) 25)] :: F) := by first | exact H | exact H.drop | exact H.drop.drop | exact H.drop.drop.drop | exact H.drop.drop.drop.drop | exact H.drop.drop.drop.drop.drop | exact H.drop.drop.drop.drop.drop.drop | exact H.drop.drop.drop.drop.drop.drop.drop | exact H.drop.drop.drop.drop.drop.drop.drop.drop
              refine ⟨hS, ?_⟩
              refine JH.all [7] (by kernel_rfl) (by decide) ?_
              refine JHO.does (listed' := [true, true, true, true, true, true, true, true]) rfl rfl trivial (by first | exact EX.storeAgg H rfl rfl (i := 0) rfl (by simp [isCell]) (by simp) sz25 rfl rfl | exact EX.storeAgg H rfl rfl (i := 1) rfl (by simp [isCell]) (by simp) sz25 rfl rfl | exact EX.storeAgg H rfl rfl (i := 2) rfl (by simp [isCell]) (by simp) sz25 rfl rfl | exact EX.storeAgg H rfl rfl (i := 3) rfl (by simp [isCell]) (by simp) sz25 rfl rfl | exact EX.storeAgg H rfl rfl (i := 4) rfl (by simp [isCell]) (by simp) sz25 rfl rfl | exact EX.storeAgg H rfl rfl (i := 5) rfl (by simp [isCell]) (by simp) sz25 rfl rfl | exact EX.storeAgg H rfl rfl (i := 6) rfl (by simp [isCell]) (by simp) sz25 rfl rfl | exact EX.storeAgg H rfl rfl (i := 7) rfl (by simp [isCell]) (by simp) sz25 rfl rfl | exact EX.storeAgg H rfl rfl (i := 8) rfl (by simp [isCell]) (by simp) sz25 rfl rfl | exact EX.storeAgg H rfl rfl (i := 9) rfl (by simp [isCell]) (by simp) sz25 rfl rfl | exact EX.storeAgg H rfl rfl (i := 10) rfl (by simp [isCell]) (by simp) sz25 rfl rfl | exact EX.storeAgg H rfl rfl (i := 11) rfl (by simp [isCell]) (by simp) sz25 rfl rfl | exact EX.storeAgg H rfl rfl (i := 12) rfl (by simp [isCell]) (by simp) sz25 rfl rfl | exact EX.storeAgg H rfl rfl (i := 13) rfl (by simp [isCell]) (by simp) sz25 rfl rfl | exact EX.storeAgg H rfl rfl (i := 14) rfl (by simp [isCell]) (by simp) sz25 rfl rfl | exact EX.storeAgg H rfl rfl (i := 15) rfl (by simp [isCell]) (by simp) sz25 rfl rfl) ?_
              rintro _ w H
              have hS : Hp w0 w ([(b2, cel (tv kb nb pb mb cb) 25)] :: [(b1, cel (tv ka na pa ma ca) 25)] :: F) := by first | exact H | exact H.drop | exact H.drop.drop | exact H.drop.drop.drop | exact H.drop.drop.drop.drop | exact H.drop.drop.drop.drop.drop | exact H.drop.drop.drop.drop.drop.drop | exact H.drop.drop.drop.drop.drop.drop.drop | exact H.drop.drop.drop.drop.drop.drop.drop.drop
              refine ⟨hS, ?_⟩
              refine JH.done (by kernel_rfl) ?_
              exact hk2 (b8, b9, tv kx nx px mx cx, tv ky ny py my cy, s1, s2) _ _ ⟨rfl, rfl, rfl, trivial⟩ ⟨rfl, rfl, trivial⟩ ⟨ox, oy, (by first | exact ((((H.pull 0 rfl).pull 1 rfl).pull 2 rfl).pull 3 rfl) | exact ((((H.pull 0 rfl).pull 1 rfl).pull 3 rfl).pull 3 rfl) | exact ((((H.pull 0 rfl).pull 2 rfl).pull 2 rfl).pull 3 rfl) | exact ((((H.pull 0 rfl).pull 2 rfl).pull 3 rfl).pull 3 rfl) | exact ((((H.pull 0 rfl).pull 3 rfl).pull 2 rfl).pull 3 rfl) | exact ((((H.pull 0 rfl).pull 3 rfl).pull 3 rfl).pull 3 rfl) | exact ((((H.pull 1 rfl).pull 1 rfl).pull 2 rfl).pull 3 rfl) | exact ((((H.pull 1 rfl).pull 1 rfl).pull 3 rfl).pull 3 rfl) | exact ((((H.pull 1 rfl).pull 2 rfl).pull 2 rfl).pull 3 rfl) | exact ((((H.pull 1 rfl).pull 2 rfl).pull 3 rfl).pull 3 rfl) | exact ((((H.pull 1 rfl).pull 3 rfl).pull 2 rfl).pull 3 rfl) | exact ((((H.pull 1 rfl).pull 3 rfl).pull 3 rfl).pull 3 rfl) | exact ((((H.pull 2 rfl).pull 1 rfl).pull 2 rfl).pull 3 rfl) | exact ((((H.pull 2 rfl).pull 1 rfl).pull 3 rfl).pull 3 rfl) | exact ((((H.pull 2 rfl).pull 2 rfl).pull 2 rfl).pull 3 rfl) | exact ((((H.pull 2 rfl).pull 2 rfl).pull 3 rfl).pull 3 rfl) | exact ((((H.pull 2 rfl).pull 3 rfl).pull 2 rfl).pull 3 rfl) | exact ((((H.pull 2 rfl).pull 3 rfl).pull 3 rfl).pull 3 rfl) | exact ((((H.pull 3 rfl).pull 1 rfl).pull 2 rfl).pull 3 rfl) | exact ((((H.pull 3 rfl).pull 1 rfl).pull 3 rfl).pull 3 rfl) | exact ((((H.pull 3 rfl).pull 2 rfl).pull 2 rfl).pull 3 rfl) | exact ((((H.pull 3 rfl).pull 2 rfl).pull 3 rfl).pull 3 rfl) | exact ((((H.pull 3 rfl).pull 3 rfl).pull 2 rfl).pull 3 rfl) | exact ((((H.pull 3 rfl).pull 3 rfl).pull 3 rfl).pull 3 rfl))⟩
            · skip
              refine JHO.does (listed' := [true, true, true, false, true, true, false, false]) rfl rfl trivial (EX.alloc H zr25 rfl) ?_
              rintro _ w ⟨b9, rfl, H⟩
              have hS : Hp w0 w ([(b2, cel (tv kb nb pb mb cb) 25)] :: [(b1, cel (tv ka na pa ma ca) 25)] :: F) := by first | exact H | exact H.drop | exact H.drop.drop | exact H.drop.drop.drop | exact H.drop.drop.drop.drop | exact H.drop.drop.drop.drop.drop | exact H.drop.drop.drop.drop.drop.drop | exact H.drop.drop.drop.drop.drop.drop.drop | exact H.drop.drop.drop.drop.drop.drop.drop.drop
              refine ⟨hS, ?_⟩
              refine JH.all [3] (by kernel_rfl) (by decide) ?_
              refine JHO.does (listed' := [true, true, true, true, true, true, false, false]) rfl rfl trivial (EX.call rfl cl20 rfl ((by first | exact lcopied_b tb (by omega) _ _ _ _ H (Tr.Is.cons (Tr.Is.cons (hb))) | exact lcopied_b tb (by omega) _ _ _ _ H (Tr.Is.cons (Tr.Is.cons (Tr.Is.cons (hb)))) | exact lcopied_b tb (by omega) _ _ _ _ H (Tr.Is.cons (Tr.Is.cons (Tr.Is.cons (Tr.Is.cons (hb))))) | exact lcopied_b tb (by omega) _ _ _ _ H (Tr.Is.cons (Tr.Is.cons (Tr.Is.cons (Tr.Is.cons (Tr.Is.cons (hb))))))))) ?_
              rintro _ w ⟨vy, s2, rfl, oy, H⟩
              obtain ⟨ky, ny, py, my, cy, rfl⟩ := oy.shape
              have hS : Hp w0 w ([(b2, cel (tv kb nb pb mb cb) 25)] :: [(b1, cel (tv ka na pa ma ca) 25)] :: F) := by first | exact H | exact H.drop | exact H.drop.drop | exact H.drop.drop.drop | exact H.drop.drop.drop.drop | exact H.drop.drop.drop.drop.drop | exact H.drop.drop.drop.drop.drop.drop | exact H.drop.drop.drop.drop.drop.drop.drop | exact H.drop.drop.drop.drop.drop.drop.drop.drop
              refine ⟨hS, ?_⟩
              refine JH.all [6] (by kernel_rfl) (by decide) ?_
              refine JHO.does (listed' := [true, true, true, true, true, true, true, false]) rfl rfl trivial (by first | exact EX.storeAgg H rfl rfl (i := 0) rfl (by simp [isCell]) (by simp) sz25 rfl rfl | exact EX.storeAgg H rfl rfl (i := 1) rfl (by simp [isCell]) (by simp) sz25 rfl rfl | exact EX.storeAgg H rfl rfl (i := 2) rfl (by simp [isCell]) (by simp) sz25 rfl rfl | exact EX.storeAgg H rfl rfl (i := 3) rfl (by simp [isCell]) (by simp) sz25 rfl rfl | exact EX.storeAgg H rfl rfl (i := 4) rfl (by simp [isCell]) (by simp) sz25 rfl rfl | exact EX.storeAgg H rfl rfl (i := 5) rfl (by simp [isCell]) (by simp) sz25 rfl rfl | exact EX.storeAgg H rfl rfl (i := 6) rfl (by simp [isCell]) (by simp) sz25 rfl rfl | exact EX.storeAgg H rfl rfl (i := 7) rfl (by simp [isCell]) (by simp) sz25 rfl rfl | exact EX.storeAgg H rfl rfl (i := 8) rfl (by simp [isCell]) (by simp) sz25 rfl rfl | exact EX.storeAgg H rfl rfl (i := 9) rfl (by simp [isCell]) (by simp) sz25 rfl rfl | exact EX.storeAgg H rfl rfl (i := 10) rfl (by simp [isCell]) (by simp) sz25 rfl rfl | exact EX.storeAgg H rfl rfl (i := 11) rfl (by simp [isCell]) (by simp) sz25 rfl rfl | exact EX.storeAgg H rfl rfl (i := 12) rfl (by simp [isCell]) (by simp) sz25 rfl rfl | exact EX.storeAgg H rfl rfl (i := 13) rfl (by simp [isCell]) (by simp) sz25 rfl rfl | exact EX.storeAgg H rfl rfl (i := 14) rfl (by simp [isCell]) (by simp) sz25 rfl rfl | exact EX.storeAgg H rfl rfl (i := 15) rfl (by simp [isCell]) (by simp) sz25 rfl rfl) ?_
              rintro _ w H
              have hS : Hp w0 w ([(b2, cel (tv kb nb pb mb cb) 25)] :: [(b1, cel (tv ka na pa ma ca) 25)] :: F) := by first | exact H | exact H.drop | exact H.drop.drop | exact H.drop.drop.drop | exact H.drop.drop.drop.drop | exact H.drop.drop.drop.drop.drop | exact H.drop.drop.drop.drop.drop.drop | exact H.drop.drop.drop.drop.drop.drop.drop | exact H.drop.drop.drop.drop.drop.drop.drop.drop
              refine ⟨hS, ?_⟩
              refine JH.all [7] (by kernel_rfl) (by decide) ?_
              refine JHO.does (listed' := [true, true, true, true, true, true, true, true]) rfl rfl trivial (by first | exact EX.storeAgg H rfl rfl (i := 0) rfl (by simp [isCell]) (by simp) sz25 rfl rfl | exact EX.storeAgg H rfl rfl (i := 1) rfl (by simp [isCell]) (by simp) sz25 rfl rfl | exact EX.storeAgg H rfl rfl (i := 2) rfl (by simp [isCell]) (by simp) sz25 rfl rfl | exact EX.storeAgg H rfl rfl (i := 3) rfl (by simp [isCell]) (by simp) sz25 rfl rfl | exact EX.storeAgg H rfl rfl (i := 4) rfl (by simp [isCell]) (by simp) sz25 rfl rfl | exact EX.storeAgg H rfl rfl (i := 5) rfl (by simp [isCell]) (by simp) sz25 rfl rfl | exact EX.storeAgg H rfl rfl (i := 6) rfl (by simp [isCell]) (by simp) sz25 rfl rfl | exact EX.storeAgg H rfl rfl (i := 7) rfl (by simp [isCell]) (by simp) sz25 rfl rfl | exact EX.storeAgg H rfl rfl (i := 8) rfl (by simp [isCell]) (by simp) sz25 rfl rfl | exact EX.storeAgg H rfl rfl (i := 9) rfl (by simp [isCell]) (by simp) sz25 rfl rfl | exact EX.storeAgg H rfl rfl (i := 10) rfl (by simp [isCell]) (by simp) sz25 rfl rfl | exact EX.storeAgg H rfl rfl (i := 11) rfl (by simp [isCell]) (by simp) sz25 rfl rfl | exact EX.storeAgg H rfl rfl (i := 12) rfl (by simp [isCell]) (by simp) sz25 rfl rfl | exact EX.storeAgg H rfl rfl (i := 13) rfl (by simp [isCell]) (by simp) sz25 rfl rfl | exact EX.storeAgg H rfl rfl (i := 14) rfl (by simp [isCell]) (by simp) sz25 rfl rfl | exact EX.storeAgg H rfl rfl (i := 15) rfl (by simp [isCell]) (by simp) sz25 rfl rfl) ?_
              rintro _ w H
              have hS : Hp w0 w ([(b2, cel (tv kb nb pb mb cb) 25)] :: [(b1, cel (tv ka na pa ma ca) 25)] :: F) := by first | exact H | exact H.drop | exact H.drop.drop | exact H.drop.drop.drop | exact H.drop.drop.drop.drop | exact H.drop.drop.drop.drop.drop | exact H.drop.drop.drop.drop.drop.drop | exact H.drop.drop.drop.drop.drop.drop.drop | exact H.drop.drop.drop.drop.drop.drop.drop.drop
              refine ⟨hS, ?_⟩
              refine JH.done (by kernel_rfl) ?_
              exact hk2 (b8, b9, tv kx nx px mx cx, tv ky ny py my cy, s1, s2) _ _ ⟨rfl, rfl, rfl, trivial⟩ ⟨rfl, rfl, trivial⟩ ⟨ox, oy, (by first | exact ((((H.pull 0 rfl).pull 1 rfl).pull 2 rfl).pull 3 rfl) | exact ((((H.pull 0 rfl).pull 1 rfl).pull 3 rfl).pull 3 rfl) | exact ((((H.pull 0 rfl).pull 2 rfl).pull 2 rfl).pull 3 rfl) | exact ((((H.pull 0 rfl).pull 2 rfl).pull 3 rfl).pull 3 rfl) | exact ((((H.pull 0 rfl).pull 3 rfl).pull 2 rfl).pull 3 rfl) | exact ((((H.pull 0 rfl).pull 3 rfl).pull 3 rfl).pull 3 rfl) | exact ((((H.pull 1 rfl).pull 1 rfl).pull 2 rfl).pull 3 rfl) | exact ((((H.pull 1 rfl).pull 1 rfl).pull 3 rfl).pull 3 rfl) | exact ((((H.pull 1 rfl).pull 2 rfl).pull 2 rfl).pull 3 rfl) | exact ((((H.pull 1 rfl).pull 2 rfl).pull 3 rfl).pull 3 rfl) | exact ((((H.pull 1 rfl).pull 3 rfl).pull 2 rfl).pull 3 rfl) | exact ((((H.pull 1 rfl).pull 3 rfl).pull 3 rfl).pull 3 rfl) | exact ((((H.pull 2 rfl).pull 1 rfl).pull 2 rfl).pull 3 rfl) | exact ((((H.pull 2 rfl).pull 1 rfl).pull 3 rfl).pull 3 rfl) | exact ((((H.pull 2 rfl).pull 2 rfl).pull 2 rfl).pull 3 rfl) | exact ((((H.pull 2 rfl).pull 2 rfl).pull 3 rfl).pull 3 rfl) | exact ((((H.pull 2 rfl).pull 3 rfl).pull 2 rfl).pull 3 rfl) | exact ((((H.pull 2 rfl).pull 3 rfl).pull 3 rfl).pull 3 rfl) | exact ((((H.pull 3 rfl).pull 1 rfl).pull 2 rfl).pull 3 rfl) | exact ((((H.pull 3 rfl).pull 1 rfl).pull 3 rfl).pull 3 rfl) | exact ((((H.pull 3 rfl).pull 2 rfl).pull 2 rfl).pull 3 rfl) | exact ((((H.pull 3 rfl).pull 2 rfl).pull 3 rfl).pull 3 rfl) | exact ((((H.pull 3 rfl).pull 3 rfl).pull 2 rfl).pull 3 rfl) | exact ((((H.pull 3 rfl).pull 3 rfl).pull 3 rfl).pull 3 rfl))⟩
          · skip
            refine JHO.does (listed' := [true, true, true, false, false, true, false, false]) rfl rfl trivial (EX.alloc H zr25 rfl) ?_
            rintro _ w ⟨b9, rfl, H⟩
            have hS : Hp w0 w ([(b2, cel (tv kb nb pb mb cb) 25)] :: [(b1, cel (tv ka na pa ma ca) 25)] :: F) := by first | exact H | exact H.drop | exact H.drop.drop | exact H.drop.drop.drop | exact H.drop.drop.drop.drop | exact H.drop.drop.drop.drop.drop | exact H.drop.drop.drop.drop.drop.drop | exact H.drop.drop.drop.drop.drop.drop.drop | exact H.drop.drop.drop.drop.drop.drop.drop.drop
            refine ⟨hS, ?_⟩
            refine JH.all [3, 4] (by kernel_rfl) (by decide) ?_
            refine ⟨?_, ?_⟩
            · skip
              refine JHO.does (listed' := [true, true, true, true, false, true, false, false]) rfl rfl trivial (EX.call rfl cl20 rfl ((by first | exact lcopied_b tb (by omega) _ _ _ _ H (Tr.Is.cons (Tr.Is.cons (hb))) | exact lcopied_b tb (by omega) _ _ _ _ H (Tr.Is.cons (Tr.Is.cons (Tr.Is.cons (hb)))) | exact lcopied_b tb (by omega) _ _ _ _ H (Tr.Is.cons (Tr.Is.cons (Tr.Is.cons (Tr.Is.cons (hb))))) | exact lcopied_b tb (by omega) _ _ _ _ H (Tr.Is.cons (Tr.Is.cons (Tr.Is.cons (Tr.Is.cons (Tr.Is.cons (hb))))))))) ?_
              rintro _ w ⟨vy, s2, rfl, oy, H⟩
              obtain ⟨ky, ny, py, my, cy, rfl⟩ := oy.shape
              have hS : Hp w0 w ([(b2, cel (tv kb nb pb mb cb) 25)] :: [(b1, cel (tv ka na pa ma ca) 25)] :: F) := by first | exact H | exact H.drop | exact H.drop.drop | exact H.drop.drop.drop | exact H.drop.drop.drop.drop | exact H.drop.drop.drop.drop.drop | exact H.drop.drop.drop.drop.drop.drop | exact H.drop.drop.drop.drop.drop.drop.drop | exact H.drop.drop.drop.drop.drop.drop.drop.drop
              refine ⟨hS, ?_⟩
              refine JH.all [4] (by kernel_rfl) (by decide) ?_
              refine JHO.does (listed' := [true, true, true, true, true, true, false, false]) rfl rfl trivial (EX.alloc H zr25 rfl) ?_
              rintro _ w ⟨b8, rfl, H⟩
              have hS : Hp w0 w ([(b2, cel (tv kb nb pb mb cb) 25)] :: [(b1, cel (tv ka na pa ma ca) 25)] :: F) := by first | exact H | exact H.drop | exact H.drop.drop | exact H.drop.drop.drop | exact H.drop.drop.drop.drop | exact H.drop.drop.drop.drop.drop | exact H.drop.drop.drop.drop.drop.drop | exact H.drop.drop.drop.drop.drop.drop.drop | exact H.drop.drop.drop.drop.drop.drop.drop.drop
              refine ⟨hS, ?_⟩
              refine JH.all [6] (by kernel_rfl) (by decide) ?_
              refine JHO.does (listed' := [true, true, true, true, true, true, true, false]) rfl rfl trivial (by first | exact EX.storeAgg H rfl rfl (i := 0) rfl (by simp [isCell]) (by simp) sz25 rfl rfl | exact EX.storeAgg H rfl rfl (i := 1) rfl (by simp [isCell]) (by simp) sz25 rfl rfl | exact EX.storeAgg H rfl rfl (i := 2) rfl (by simp [isCell]) (by simp) sz25 rfl rfl | exact EX.storeAgg H rfl rfl (i := 3) rfl (by simp [isCell]) (by simp) sz25 rfl rfl | exact EX.storeAgg H rfl rfl (i := 4) rfl (by simp [isCell]) (by simp) sz25 rfl rfl | exact EX.storeAgg H rfl rfl (i := 5) rfl (by simp [isCell]) (by simp) sz25 rfl rfl | exact EX.storeAgg H rfl rfl (i := 6) rfl (by simp [isCell]) (by simp) sz25 rfl rfl | exact EX.storeAgg H rfl rfl (i := 7) rfl (by simp [isCell]) (by simp) sz25 rfl rfl | exact EX.storeAgg H rfl rfl (i := 8) rfl (by simp [isCell]) (by simp) sz25 rfl rfl | exact EX.storeAgg H rfl rfl (i := 9) rfl (by simp [isCell]) (by simp) sz25 rfl rfl | exact EX.storeAgg H rfl rfl (i := 10) rfl (by simp [isCell]) (by simp) sz25 rfl rfl | exact EX.storeAgg H rfl rfl (i := 11) rfl (by simp [isCell]) (by simp) sz25 rfl rfl | exact EX.storeAgg H rfl rfl (i := 12) rfl (by simp [isCell]) (by simp) sz25 rfl rfl | exact EX.storeAgg H rfl rfl (i := 13) rfl (by simp [isCell]) (by simp) sz25 rfl rfl | exact EX.storeAgg H rfl rfl (i := 14) rfl (by simp [isCell]) (by simp) sz25 rfl rfl | exact EX.storeAgg H rfl rfl (i := 15) rfl (by simp [isCell]) (by simp) sz25 rfl rfl) ?_
              rintro _ w H
              have hS : Hp w0 w ([(b2, cel (tv kb nb pb mb cb) 25)] :: [(b1, cel (tv ka na pa ma ca) 25)] :: F) := by first | exact H | exact H.drop | exact H.drop.drop | exact H.drop.drop.drop | exact H.drop.drop.drop.drop | exact H.drop.drop.drop.drop.drop | exact H.drop.drop.drop.drop.drop.drop | exact H.drop.drop.drop.drop.drop.drop.drop | exact H.drop.drop.drop.drop.drop.drop.drop.drop
              refine ⟨hS, ?_⟩
              refine JH.all [7] (by kernel_rfl) (by decide) ?_
              refine JHO.does (listed' := [true, true, true, true, true, true, true, true]) rfl rfl trivial (by first | exact EX.storeAgg H rfl rfl (i := 0) rfl (by simp [isCell]) (by simp) sz25 rfl rfl | exact EX.storeAgg H rfl rfl (i := 1) rfl (by simp [isCell]) (by simp) sz25 rfl rfl | exact EX.storeAgg H rfl rfl (i := 2) rfl (by simp [isCell]) (by simp) sz25 rfl rfl | exact EX.storeAgg H rfl rfl (i := 3) rfl (by simp [isCell]) (by simp) sz25 rfl rfl | exact EX.storeAgg H rfl rfl (i := 4) rfl (by simp [isCell]) (by simp) sz25 rfl rfl | exact EX.storeAgg H rfl rfl (i := 5) rfl (by simp [isCell]) (by simp) sz25 rfl rfl | exact EX.storeAgg H rfl rfl (i := 6) rfl (by simp [isCell]) (by simp) sz25 rfl rfl | exact EX.storeAgg H rfl rfl (i := 7) rfl (by simp [isCell]) (by simp) sz25 rfl rfl | exact EX.storeAgg H rfl rfl (i := 8) rfl (by simp [isCell]) (by simp) sz25 rfl rfl | exact EX.storeAgg H rfl rfl (i := 9) rfl (by simp [isCell]) (by simp) sz25 rfl rfl | exact EX.storeAgg H rfl rfl (i := 10) rfl (by simp [isCell]) (by simp) sz25 rfl rfl | exact EX.storeAgg H rfl rfl (i := 11) rfl (by simp [isCell]) (by simp) sz25 rfl rfl | exact EX.storeAgg H rfl rfl (i := 12) rfl (by simp [isCell]) (by simp) sz25 rfl rfl | exact EX.storeAgg H rfl rfl (i := 13) rfl (by simp [isCell]) (by simp) sz25 rfl rfl | exact EX.storeAgg H rfl rfl (i := 14) rfl (by simp [isCell]) (by simp) sz25 rfl rfl | exact EX.storeAgg H rfl rfl (i := 15) rfl (by simp [isCell]) (by simp) sz25 rfl rfl) ?_
              rintro _ w H
              have hS : Hp w0 w ([(b2, cel (tv kb nb pb mb cb) 25)] :: [(b1, cel (tv ka na pa ma ca) 25)] :: F) := by first | exact H | exact H.drop | exact H.drop.drop | exact H.drop.drop.drop | exact H.drop.drop.drop.drop | exact H.drop.drop.drop.drop.drop | exact H.drop.drop.drop.drop.drop.drop | exact H.drop.drop.drop.drop.drop.drop.drop | exact H.drop.drop.drop.drop.drop.drop.drop.drop
              refine ⟨hS, ?_⟩
              refine JH.done (by kernel_rfl) ?_
              exact hk2 (b8, b9, tv kx nx px mx cx, tv ky ny py my cy, s1, s2) _ _ ⟨rfl, rfl, rfl, trivial⟩ ⟨rfl, rfl, trivial⟩ ⟨ox, oy, (by first | exact ((((H.pull 0 rfl).pull 1 rfl).pull 2 rfl).pull 3 rfl) | exact ((((H.pull 0 rfl).pull 1 rfl).pull 3 rfl).pull 3 rfl) | exact ((((H.pull 0 rfl).pull 2 rfl).pull 2 rfl).pull 3 rfl) | exact ((((H.pull 0 rfl).pull 2 rfl).pull 3 rfl).pull 3 rfl) | exact ((((H.pull 0 rfl).pull 3 rfl).pull 2 rfl).pull 3 rfl) | exact ((((H.pull 0 rfl).pull 3 rfl).pull 3 rfl).pull 3 rfl) | exact ((((H.pull 1 rfl).pull 1 rfl).pull 2 rfl).pull 3 rfl) | exact ((((H.pull 1 rfl).pull 1 rfl).pull 3 rfl).pull 3 rfl) | exact ((((H.pull 1 rfl).pull 2 rfl).pull 2 rfl).pull 3 rfl) | exact ((((H.pull 1 rfl).pull 2 rfl).pull 3 rfl).pull 3 rfl) | exact ((((H.pull 1 rfl).pull 3 rfl).pull 2 rfl).pull 3 rfl) | exact ((((H.pull 1 rfl).pull 3 rfl).pull 3 rfl).pull 3 rfl) | exact ((((H.pull 2 rfl).pull 1 rfl).pull 2 rfl).pull 3 rfl) | exact ((((H.pull 2 rfl).pull 1 rfl).pull 3 rfl).pull 3 rfl) | exact ((((H.pull 2 rfl).pull 2 rfl).pull 2 rfl).pull 3 rfl) | exact ((((H.pull 2 rfl).pull 2 rfl).pull 3 rfl).pull 3 rfl) | exact ((((H.pull 2 rfl).pull 3 rfl).pull 2 rfl).pull 3 rfl) | exact ((((H.pull 2 rfl).pull 3 rfl).pull 3 rfl).pull 3 rfl) | exact ((((H.pull 3 rfl).pull 1 rfl).pull 2 rfl).pull 3 rfl) | exact ((((H.pull 3 rfl).pull 1 rfl).pull 3 rfl).pull 3 rfl) | exact ((((H.pull 3 rfl).pull 2 rfl).pull 2 rfl).pull 3 rfl) | exact ((((H.pull 3 rfl).pull 2 rfl).pull 3 rfl).pull 3 rfl) | exact ((((H.pull 3 rfl).pull 3 rfl).pull 2 rfl).pull 3 rfl) | exact ((((H.pull 3 rfl).pull 3 rfl).pull 3 rfl).pull 3 rfl))⟩
            · skip
              refine JHO.does (listed' := [true, true, true, false, true, true, false, false]) rfl rfl trivial (EX.alloc H zr25 rfl) ?_
              rintro _ w ⟨b8, rfl, H⟩
              have hS : Hp w0 w ([(b2, cel (tv kb nb pb mb cb) 25)] :: [(b1, cel (tv ka na pa ma ca) 25)] :: F) := by first | exact H | exact H.drop | exact H.drop.drop | exact H.drop.drop.drop | exact H.drop.drop.drop.drop | exact H.drop.drop.drop.drop.drop | exact H.drop.drop.drop.drop.drop.drop | exact H.drop.drop.drop.drop.drop.drop.drop | exact H.drop.drop.drop.drop.drop.drop.drop.drop
              refine ⟨hS, ?_⟩
              refine JH.all [3] (by kernel_rfl) (by decide) ?_
              refine JHO.does (listed' := [true, true, true, true, true, true, false, false]) rfl rfl trivial (EX.call rfl cl20 rfl ((by first | exact lcopied_b tb (by omega) _ _ _ _ H (Tr.Is.cons (Tr.Is.cons (hb))) | exact lcopied_b tb (by omega) _ _ _ _ H (Tr.Is.cons (Tr.Is.cons (Tr.Is.cons (hb)))) | exact lcopied_b tb (by omega) _ _ _ _ H (Tr.Is.cons (Tr.Is.cons (Tr.Is.cons (Tr.Is.cons (hb))))) | exact lcopied_b tb (by omega) _ _ _ _ H (Tr.Is.cons (Tr.Is.cons (Tr.Is.cons (Tr.Is.cons (Tr.Is.cons (hb))))))))) ?_
              rintro _ w ⟨vy, s2, rfl, oy, H⟩
              obtain ⟨ky, ny, py, my, cy, rfl⟩ := oy.shape
              have hS : Hp w0 w ([(b2, cel (tv kb nb pb mb cb) 25)] :: [(b1, cel (tv ka na pa ma ca) 25)] :: F) := by first | exact H | exact H.drop | exact H.drop.drop | exact H.drop.drop.drop | exact H.drop.drop.drop.drop | exact H.drop.drop.drop.drop.drop | exact H.drop.drop.drop.drop.drop.drop | exact H.drop.drop.drop.drop.drop.drop.drop | exact H.drop.drop.drop.drop.drop.drop.drop.drop
              refine ⟨hS, ?_⟩
              refine JH.all [6] (by kernel_rfl) (by decide) ?_
              refine JHO.does (listed' := [true, true, true, true, true, true, true, false]) rfl rfl trivial (by first | exact EX.storeAgg H rfl rfl (i := 0) rfl (by simp [isCell]) (by simp) sz25 rfl rfl | exact EX.storeAgg H rfl rfl (i := 1) rfl (by simp [isCell]) (by simp) sz25 rfl rfl | exact EX.storeAgg H rfl rfl (i := 2) rfl (by simp [isCell]) (by simp) sz25 rfl rfl | exact EX.storeAgg H rfl rfl (i := 3) rfl (by simp [isCell]) (by simp) sz25 rfl rfl | exact EX.storeAgg H rfl rfl (i := 4) rfl (by simp [isCell]) (by simp) sz25 rfl rfl | exact EX.storeAgg H rfl rfl (i := 5) rfl (by simp [isCell]) (by simp) sz25 rfl rfl | exact EX.storeAgg H rfl rfl (i := 6) rfl (by simp [isCell]) (by simp) sz25 rfl rfl | exact EX.storeAgg H rfl rfl (i := 7) rfl (by simp [isCell]) (by simp) sz25 rfl rfl | exact EX.storeAgg H rfl rfl (i := 8) rfl (by simp [isCell]) (by simp) sz25 rfl rfl | exact EX.storeAgg H rfl rfl (i := 9) rfl (by simp [isCell]) (by simp) sz25 rfl rfl | exact EX.storeAgg H rfl rfl (i := 10) rfl (by simp [isCell]) (by simp) sz25 rfl rfl | exact EX.storeAgg H rfl rfl (i := 11) rfl (by simp [isCell]) (by simp) sz25 rfl rfl | exact EX.storeAgg H rfl rfl (i := 12) rfl (by simp [isCell]) (by simp) sz25 rfl rfl | exact EX.storeAgg H rfl rfl (i := 13) rfl (by simp [isCell]) (by simp) sz25 rfl rfl | exact EX.storeAgg H rfl rfl (i := 14) rfl (by simp [isCell]) (by simp) sz25 rfl rfl | exact EX.storeAgg H rfl rfl (i := 15) rfl (by simp [isCell]) (by simp) sz25 rfl rfl) ?_
              rintro _ w H
              have hS : Hp w0 w ([(b2, cel (tv kb nb pb mb cb) 25)] :: [(b1, cel (tv ka na pa ma ca) 25)] :: F) := by first | exact H | exact H.drop | exact H.drop.drop | exact H.drop.drop.drop | exact H.drop.drop.drop.drop | exact H.drop.drop.drop.drop.drop | exact H.drop.drop.drop.drop.drop.drop | exact H.drop.drop.drop.drop.drop.drop.drop | exact H.drop.drop.drop.drop.drop.drop.drop.drop
              refine ⟨hS, ?_⟩
              refine JH.all [7] (by kernel_rfl) (by decide) ?_
              refine JHO.does (listed' := [true, true, true, true, true, true, true, true]) rfl rfl trivial (by first | exact EX.storeAgg H rfl rfl (i := 0) rfl (by simp [isCell]) (by simp) sz25 rfl rfl | exact EX.storeAgg H rfl rfl (i := 1) rfl (by simp [isCell]) (by simp) sz25 rfl rfl | exact EX.storeAgg H rfl rfl (i := 2) rfl (by simp [isCell]) (by simp) sz25 rfl rfl | exact EX.storeAgg H rfl rfl (i := 3) rfl (by simp [isCell]) (by simp) sz25 rfl rfl | exact EX.storeAgg H rfl rfl (i := 4) rfl (by simp [isCell]) (by simp) sz25 rfl rfl | exact EX.storeAgg H rfl rfl (i := 5) rfl (by simp [isCell]) (by simp) sz25 rfl rfl | exact EX.storeAgg H rfl rfl (i := 6) rfl (by simp [isCell]) (by simp) sz25 rfl rfl | exact EX.storeAgg H rfl rfl (i := 7) rfl (by simp [isCell]) (by simp) sz25 rfl rfl | exact EX.storeAgg H rfl rfl (i := 8) rfl (by simp [isCell]) (by simp) sz25 rfl rfl | exact EX.storeAgg H rfl rfl (i := 9) rfl (by simp [isCell]) (by simp) sz25 rfl rfl | exact EX.storeAgg H rfl rfl (i := 10) rfl (by simp [isCell]) (by simp) sz25 rfl rfl | exact EX.storeAgg H rfl rfl (i := 11) rfl (by simp [isCell]) (by simp) sz25 rfl rfl | exact EX.storeAgg H rfl rfl (i := 12) rfl (by simp [isCell]) (by simp) sz25 rfl rfl | exact EX.storeAgg H rfl rfl (i := 13) rfl (by simp [isCell]) (by simp) sz25 rfl rfl | exact EX.storeAgg H rfl rfl (i := 14) rfl (by simp [isCell]) (by simp) sz25 rfl rfl | exact EX.storeAgg H rfl rfl (i := 15) rfl (by simp [isCell]) (by simp) sz25 rfl rfl) ?_
              rintro _ w H
              have hS : Hp w0 w ([(b2, cel (tv kb nb pb mb cb) 25)] :: [(b1, cel (tv ka na pa ma ca) 25)] :: F) := by first | exact H | exact H.drop | exact H.drop.drop | exact H.drop.drop.drop | exact H.drop.drop.drop.drop | exact H.drop.drop.drop.drop.drop | exact H.drop.drop.drop.drop.drop.drop | exact H.drop.drop.drop.drop.drop.drop.drop | exact H.drop.drop.drop.drop.drop.drop.drop.drop
              refine ⟨hS, ?_⟩
              refine JH.done (by kernel_rfl) ?_
              exact hk2 (b8, b9, tv kx nx px mx cx, tv ky ny py my cy, s1, s2) _ _ ⟨rfl, rfl, rfl, trivial⟩ ⟨rfl, rfl, trivial⟩ ⟨ox, oy, (by first | exact ((((H.pull 0 rfl).pull 1 rfl).pull 2 rfl).pull 3 rfl) | exact ((((H.pull 0 rfl).pull 1 rfl).pull 3 rfl).pull 3 rfl) | exact ((((H.pull 0 rfl).pull 2 rfl).pull 2 rfl).pull 3 rfl) | exact ((((H.pull 0 rfl).pull 2 rfl).pull 3 rfl).pull 3 rfl) | exact ((((H.pull 0 rfl).pull 3 rfl).pull 2 rfl).pull 3 rfl) | exact ((((H.pull 0 rfl).pull 3 rfl).pull 3 rfl).pull 3 rfl) | exact ((((H.pull 1 rfl).pull 1 rfl).pull 2 rfl).pull 3 rfl) | exact ((((H.pull 1 rfl).pull 1 rfl).pull 3 rfl).pull 3 rfl) | exact ((((H.pull 1 rfl).pull 2 rfl).pull 2 rfl).pull 3 rfl) | exact ((((H.pull 1 rfl).pull 2 rfl).pull 3 rfl).pull 3 rfl) | exact ((((H.pull 1 rfl).pull 3 rfl).pull 2 rfl).pull 3 rfl) | exact ((((H.pull 1 rfl).pull 3 rfl).pull 3 rfl).pull 3 rfl) | exact ((((H.pull 2 rfl).pull 1 rfl).pull 2 rfl).pull 3 rfl) | exact ((((H.pull 2 rfl).pull 1 rfl).pull 3 rfl).pull 3 rfl) | exact ((((H.pull 2 rfl).pull 2 rfl).pull 2 rfl).pull 3 rfl) | exact ((((H.pull 2 rfl).pull 2 rfl).pull 3 rfl).pull 3 rfl) | exact ((((H.pull 2 rfl).pull 3 rfl).pull 2 rfl).pull 3 rfl) | exact ((((H.pull 2 rfl).pull 3 rfl).pull 3 rfl).pull 3 rfl) | exact ((((H.pull 3 rfl).pull 1 rfl).pull 2 rfl).pull 3 rfl) | exact ((((H.pull 3 rfl).pull 1 rfl).pull 3 rfl).pull 3 rfl) | exact ((((H.pull 3 rfl).pull 2 rfl).pull 2 rfl).pull 3 rfl) | exact ((((H.pull 3 rfl).pull 2 rfl).pull 3 rfl).pull 3 rfl) | exact ((((H.pull 3 rfl).pull 3 rfl).pull 2 rfl).pull 3 rfl) | exact ((((H.pull 3 rfl).pull 3 rfl).pull 3 rfl).pull 3 rfl))⟩
        · skip
          refine JHO.does (listed' := [true, false, true, false, true, false, false, false]) rfl rfl trivial (EX.alloc H zr25 rfl) ?_
          rintro _ w ⟨b8, rfl, H⟩
          have hS : Hp w0 w ([(b2, cel (tv kb nb pb mb cb) 25)] :: [(b1, cel (tv ka na pa ma ca) 25)] :: F) := by first | exact H | exact H.drop | exact H.drop.drop | exact H.drop.drop.drop | exact H.drop.drop.drop.drop | exact H.drop.drop.drop.drop.drop | exact H.drop.drop.drop.drop.drop.drop | exact H.drop.drop.drop.drop.drop.drop.drop | exact H.drop.drop.drop.drop.drop.drop.drop.drop
          refine ⟨hS, ?_⟩
          refine JH.all [1, 5] (by kernel_rfl) (by decide) ?_
          refine ⟨?_, ?_⟩
          · skip
            refine JHO.does (listed' := [true, true, true, false, true, false, false, false]) rfl rfl trivial (EX.call rfl cl20 rfl ((by first | exact lcopied_b ta (by omega) _ _ _ _ H (Tr.Is.cons (Tr.Is.cons (ha))) | exact lcopied_b ta (by omega) _ _ _ _ H (Tr.Is.cons (Tr.Is.cons (Tr.Is.cons (ha)))) | exact lcopied_b ta (by omega) _ _ _ _ H (Tr.Is.cons (Tr.Is.cons (Tr.Is.cons (Tr.Is.cons (ha))))) | exact lcopied_b ta (by omega) _ _ _ _ H (Tr.Is.cons (Tr.Is.cons (Tr.Is.cons (Tr.Is.cons (Tr.Is.cons (ha))))))))) ?_
            rintro _ w ⟨vx, s1, rfl, ox, H⟩
            obtain ⟨kx, nx, px, mx, cx, rfl⟩ := ox.shape
            have hS : Hp w0 w ([(b2, cel (tv kb nb pb mb cb) 25)] :: [(b1, cel (tv ka na pa ma ca) 25)] :: F) := by first | exact H | exact H.drop | exact H.drop.drop | exact H.drop.drop.drop | exact H.drop.drop.drop.drop | exact H.drop.drop.drop.drop.drop | exact H.drop.drop.drop.drop.drop.drop | exact H.drop.drop.drop.drop.drop.drop.drop | exact H.drop.drop.drop.drop.drop.drop.drop.drop
            refine ⟨hS, ?_⟩
            refine JH.all [3, 5] (by kernel_rfl) (by decide) ?_
            refine ⟨?_, ?_⟩
            · skip
              refine JHO.does (listed' := [true, true, true, true, true, false, false, false]) rfl rfl trivial (EX.call rfl cl20 rfl ((by first | exact lcopied_b tb (by omega) _ _ _ _ H (Tr.Is.cons (Tr.Is.cons (hb))) | exact lcopied_b tb (by omega) _ _ _ _ H (Tr.Is.cons (Tr.Is.cons (Tr.Is.cons (hb)))) | exact lcopied_b tb (by omega) _ _ _ _ H (Tr.Is.cons (Tr.Is.cons (Tr.Is.cons (Tr.Is.cons (hb))))) | exact lcopied_b tb (by omega) _ _ _ _ H (Tr.Is.cons (Tr.Is.cons (Tr.Is.cons (Tr.Is.cons (Tr.Is.cons (hb))))))))) ?_
              rintro _ w ⟨vy, s2, rfl, oy, H⟩
              obtain ⟨ky, ny, py, my, cy, rfl⟩ := oy.shape
              have hS : Hp w0 w ([(b2, cel (tv kb nb pb mb cb) 25)] :: [(b1, cel (tv ka na pa ma ca) 25)] :: F) := by first | exact H | exact H.drop | exact H.drop.drop | exact H.drop.drop.drop | exact H.drop.drop.drop.drop | exact H.drop.drop.drop.drop.drop | exact H.drop.drop.drop.drop.drop.drop | exact H.drop.drop.drop.drop.drop.drop.drop | exact H.drop.drop.drop.drop.drop.drop.drop.drop
              refine ⟨hS, ?_⟩
              refine JH.all [5] (by kernel_rfl) (by decide) ?_
              refine JHO.does (listed' := [true, true, true, true, true, true, false, false]) rfl rfl trivial (EX.alloc H zr25 rfl) ?_
              rintro _ w ⟨b9, rfl, H⟩
              have hS : Hp w0 w ([(b2, cel (tv kb nb pb mb cb) 25)] :: [(b1, cel (tv ka na pa ma ca) 25)] :: F) := by first | exact H | exact H.drop | exact H.drop.drop | exact H.drop.drop.drop | exact H.drop.drop.drop.drop | exact H.drop.drop.drop.drop.drop | exact H.drop.drop.drop.drop.drop.drop | exact H.drop.drop.drop.drop.drop.drop.drop | exact H.drop.drop.drop.drop.drop.drop.drop.drop
              refine ⟨hS, ?_⟩
              refine JH.all [6] (by kernel_rfl) (by decide) ?_
              refine JHO.does (listed' := [true, true, true, true, true, true, true, false]) rfl rfl trivial (by first | exact EX.storeAgg H rfl rfl (i := 0) rfl (by simp [isCell]) (by simp) sz25 rfl rfl | exact EX.storeAgg H rfl rfl (i := 1) rfl (by simp [isCell]) (by simp) sz25 rfl rfl | exact EX.storeAgg H rfl rfl (i := 2) rfl (by simp [isCell]) (by simp) sz25 rfl rfl | exact EX.storeAgg H rfl rfl (i := 3) rfl (by simp [isCell]) (by simp) sz25 rfl rfl | exact EX.storeAgg H rfl rfl (i := 4) rfl (by simp [isCell]) (by simp) sz25 rfl rfl | exact EX.storeAgg H rfl rfl (i := 5) rfl (by simp [isCell]) (by simp) sz25 rfl rfl | exact EX.storeAgg H rfl rfl (i := 6) rfl (by simp [isCell]) (by simp) sz25 rfl rfl | exact EX.storeAgg H rfl rfl (i := 7) rfl (by simp [isCell]) (by simp) sz25 rfl rfl | exact EX.storeAgg H rfl rfl (i := 8) rfl (by simp [isCell]) (by simp) sz25 rfl rfl | exact EX.storeAgg H rfl rfl (i := 9) rfl (by simp [isCell]) (by simp) sz25 rfl rfl | exact EX.storeAgg H rfl rfl (i := 10) rfl (by simp [isCell]) (by simp) sz25 rfl rfl | exact EX.storeAgg H rfl rfl (i := 11) rfl (by simp [isCell]) (by simp) sz25 rfl rfl | exact EX.storeAgg H rfl rfl (i := 12) rfl (by simp [isCell]) (by simp) sz25 rfl rfl | exact EX.storeAgg H rfl rfl (i := 13) rfl (by simp [isCell]) (by simp) sz25 rfl rfl | exact EX.storeAgg H rfl rfl (i := 14) rfl (by simp [isCell]) (by simp) sz25 rfl rfl | exact EX.storeAgg H rfl rfl (i := 15) rfl (by simp [isCell]) (by simp) sz25 rfl rfl) ?_
              rintro _ w H
              have hS : Hp w0 w ([(b2, cel (tv kb nb pb mb cb) 25)] :: [(b1, cel (tv ka na pa ma ca) 25)] :: F) := by first | exact H | exact H.drop | exact H.drop.drop | exact H.drop.drop.drop | exact H.drop.drop.drop.drop | exact H.drop.drop.drop.drop.drop | exact H.drop.drop.drop.drop.drop.drop | exact H.drop.drop.drop.drop.drop.drop.drop | exact H.drop.drop.drop.drop.drop.drop.drop.drop
              refine ⟨hS, ?_⟩
              refine JH.all [7] (by kernel_rfl) (by decide) ?_
              refine JHO.does (listed' := [true, true, true, true, true, true, true, true]) rfl rfl trivial (by first | exact EX.storeAgg H rfl rfl (i := 0) rfl (by simp [isCell]) (by simp) sz25 rfl rfl | exact EX.storeAgg H rfl rfl (i := 1) rfl (by simp [isCell]) (by simp) sz25 rfl rfl | exact EX.storeAgg H rfl rfl (i := 2) rfl (by simp [isCell]) (by simp) sz25 rfl rfl | exact EX.storeAgg H rfl rfl (i := 3) rfl (by simp [isCell]) (by simp) sz25 rfl rfl | exact EX.storeAgg H rfl rfl (i := 4) rfl (by simp [isCell]) (by simp) sz25 rfl rfl | exact EX.storeAgg H rfl rfl (i := 5) rfl (by simp [isCell]) (by simp) sz25 rfl rfl | exact EX.storeAgg H rfl rfl (i := 6) rfl (by simp [isCell]) (by simp) sz25 rfl rfl | exact EX.storeAgg H rfl rfl (i := 7) rfl (by simp [isCell]) (by simp) sz25 rfl rfl | exact EX.storeAgg H rfl rfl (i := 8) rfl (by simp [isCell]) (by simp) sz25 rfl rfl | exact EX.storeAgg H rfl rfl (i := 9) rfl (by simp [isCell]) (by simp) sz25 rfl rfl | exact EX.storeAgg H rfl rfl (i := 10) rfl (by simp [isCell]) (by simp) sz25 rfl rfl | exact EX.storeAgg H rfl rfl (i := 11) rfl (by simp [isCell]) (by simp) sz25 rfl rfl | exact EX.storeAgg H rfl rfl (i := 12) rfl (by simp [isCell]) (by simp) sz25 rfl rfl | exact EX.storeAgg H rfl rfl (i := 13) rfl (by simp [isCell]) (by simp) sz25 rfl rfl | exact EX.storeAgg H rfl rfl (i := 14) rfl (by simp [isCell]) (by simp) sz25 rfl rfl | exact EX.storeAgg H rfl rfl (i := 15) rfl (by simp [isCell]) (by simp) sz25 rfl rfl) ?_
              rintro _ w H
              have hS : Hp w0 w ([(b2, cel (tv kb nb pb mb cb) 25)] :: [(b1, cel (tv ka na pa ma ca) 25)] :: F) := by first | exact H | exact H.drop | exact H.drop.drop | exact H.drop.drop.drop | exact H.drop.drop.drop.drop | exact H.drop.drop.drop.drop.drop | exact H.drop.drop.drop.drop.drop.drop | exact H.drop.drop.drop.drop.drop.drop.drop | exact H.drop.drop.drop.drop.drop.drop.drop.drop
              refine ⟨hS, ?_⟩
              refine JH.done (by kernel_rfl) ?_
              exact hk2 (b8, b9, tv kx nx px mx cx, tv ky ny py my cy, s1, s2) _ _ ⟨rfl, rfl, rfl, trivial⟩ ⟨rfl, rfl, trivial⟩ ⟨ox, oy, (by first | exact ((((H.pull 0 rfl).pull 1 rfl).pull 2 rfl).pull 3 rfl) | exact ((((H.pull 0 rfl).pull 1 rfl).pull 3 rfl).pull 3 rfl) | exact ((((H.pull 0 rfl).pull 2 rfl).pull 2 rfl).pull 3 rfl) | exact ((((H.pull 0 rfl).pull 2 rfl).pull 3 rfl).pull 3 rfl) | exact ((((H.pull 0 rfl).pull 3 rfl).pull 2 rfl).pull 3 rfl) | exact ((((H.pull 0 rfl).pull 3 rfl).pull 3 rfl).pull 3 rfl) | exact ((((H.pull 1 rfl).pull 1 rfl).pull 2 rfl).pull 3 rfl) | exact ((((H.pull 1 rfl).pull 1 rfl).pull 3 rfl).pull 3 rfl) | exact ((((H.pull 1 rfl).pull 2 rfl).pull 2 rfl).pull 3 rfl) | exact ((((H.pull 1 rfl).pull 2 rfl).pull 3 rfl).pull 3 rfl) | exact ((((H.pull 1 rfl).pull 3 rfl).pull 2 rfl).pull 3 rfl) | exact ((((H.pull 1 rfl).pull 3 rfl).pull 3 rfl).pull 3 rfl) | exact ((((H.pull 2 rfl).pull 1 rfl).pull 2 rfl).pull 3 rfl) | exact ((((H.pull 2 rfl).pull 1 rfl).pull 3 rfl).pull 3 rfl) | exact ((((H.pull 2 rfl).pull 2 rfl).pull 2 rfl).pull 3 rfl) | exact ((((H.pull 2 rfl).pull 2 rfl).pull 3 rfl).pull 3 rfl) | exact ((((H.pull 2 rfl).pull 3 rfl).pull 2 rfl).pull 3 rfl) | exact ((((H.pull 2 rfl).pull 3 rfl).pull 3 rfl).pull 3 rfl) | exact ((((H.pull 3 rfl).pull 1 rfl).pull 2 rfl).pull 3 rfl) | exact ((((H.pull 3 rfl).pull 1 rfl).pull 3 rfl).pull 3 rfl) | exact ((((H.pull 3 rfl).pull 2 rfl).pull 2 rfl).pull 3 rfl) | exact ((((H.pull 3 rfl).pull 2 rfl).pull 3 rfl).pull 3 rfl) | exact ((((H.pull 3 rfl).pull 3 rfl).pull 2 rfl).pull 3 rfl) | exact ((((H.pull 3 rfl).pull 3 rfl).pull 3 rfl).pull 3 rfl))⟩
            · skip
              refine JHO.does (listed' := [true, true, true, false, true, true, false, false]) rfl rfl trivial (EX.alloc H zr25 rfl) ?_
              rintro _ w ⟨b9, rfl, H⟩
              have hS : Hp w0 w ([(b2, cel (tv kb nb pb mb cb) 25)] :: [(b1, cel (tv ka na pa ma ca) 25)] :: F) := by first | exact H | exact H.drop | exact H.drop.drop | exact H.drop.drop.drop | exact H.drop.drop.drop.drop | exact H.drop.drop.drop.drop.drop | exact H.drop.drop.drop.drop.drop.drop | exact H.drop.drop.drop.drop.drop.drop.drop | exact H.drop.drop.drop.drop.drop.drop.drop.drop
              refine ⟨hS, ?_⟩
              refine JH.all [3] (by kernel_rfl) (by decide) ?_
              refine JHO.does (listed' := [true, true, true, true, true, true, false, false]) rfl rfl trivial (EX.call rfl cl20 rfl ((by first | exact lcopied_b tb (by omega) _ _ _ _ H (Tr.Is.cons (Tr.Is.cons (hb))) | exact lcopied_b tb (by omega) _ _ _ _ H (Tr.Is.cons (Tr.Is.cons (Tr.Is.cons (hb)))) | exact lcopied_b tb (by omega) _ _ _ _ H (Tr.Is.cons (Tr.Is.cons (Tr.Is.cons (Tr.Is.cons (hb))))) | exact lcopied_b tb (by omega) _ _ _ _ H (Tr.Is.cons (Tr.Is.cons (Tr.Is.cons (Tr.Is.cons (Tr.Is.cons (hb))))))))) ?_
              rintro _ w ⟨vy, s2, rfl, oy, H⟩
              obtain ⟨ky, ny, py, my, cy, rfl⟩ := oy.shape
              have hS : Hp w0 w ([(b2, cel (tv kb nb pb mb cb) 25)] :: [(b1, cel (tv ka na pa ma ca) 25)] :: F) := by first | exact H | exact H.drop | exact H.drop.drop | exact H.drop.drop.drop | exact H.drop.drop.drop.drop | exact H.drop.drop.drop.drop.drop | exact H.drop.drop.drop.drop.drop.drop | exact H.drop.drop.drop.drop.drop.drop.drop | exact H.drop.drop.drop.drop.drop.drop.drop.drop
              refine ⟨hS, ?_⟩
              refine JH.all [6] (by kernel_rfl) (by decide) ?_
              refine JHO.does (listed' := [true, true, true, true, true, true, true, false]) rfl rfl trivial (by first | exact EX.storeAgg H rfl rfl (i := 0) rfl (by simp [isCell]) (by simp) sz25 rfl rfl | exact EX.storeAgg H rfl rfl (i := 1) rfl (by simp [isCell]) (by simp) sz25 rfl rfl | exact EX.storeAgg H rfl rfl (i := 2) rfl (by simp [isCell]) (by simp) sz25 rfl rfl | exact EX.storeAgg H rfl rfl (i := 3) rfl (by simp [isCell]) (by simp) sz25 rfl rfl | exact EX.storeAgg H rfl rfl (i := 4) rfl (by simp [isCell]) (by simp) sz25 rfl rfl | exact EX.storeAgg H rfl rfl (i := 5) rfl (by simp [isCell]) (by simp) sz25 rfl rfl | exact EX.storeAgg H rfl rfl (i := 6) rfl (by simp [isCell]) (by simp) sz25 rfl rfl | exact EX.storeAgg H rfl rfl (i := 7) rfl (by simp [isCell]) (by simp) sz25 rfl rfl | exact EX.storeAgg H rfl rfl (i := 8) rfl (by simp [isCell]) (by simp) sz25 rfl rfl | exact EX.storeAgg H rfl rfl (i := 9) rfl (by simp [isCell]) (by simp) sz25 rfl rfl | exact EX.storeAgg H rfl rfl (i := 10) rfl (by simp [isCell]) (by simp) sz25 rfl rfl | exact EX.storeAgg H rfl rfl (i := 11) rfl (by simp [isCell]) (by simp) sz25 rfl rfl | exact EX.storeAgg H rfl rfl (i := 12) rfl (by simp [isCell]) (by simp) sz25 rfl rfl | exact EX.storeAgg H rfl rfl (i := 13) rfl (by simp [isCell]) (by simp) sz25 rfl rfl | exact EX.storeAgg H rfl rfl (i := 14) rfl (by simp [isCell]) (by simp) sz25 rfl rfl | exact EX.storeAgg H rfl rfl (i := 15) rfl (by simp [isCell]) (by simp) sz25 rfl rfl) ?_
              rintro _ w H
              have hS : Hp w0 w ([(b2, cel (tv kb nb pb mb cb) 25)] :: [(b1, cel (tv ka na pa ma ca) 25)] :: F) := by first | exact H | exact H.drop | exact H.drop.drop | exact H.drop.drop.drop | exact H.drop.drop.drop.drop | exact H.drop.drop.drop.drop.drop | exact H.drop.drop.drop.drop.drop.drop | exact H.drop.drop.drop.drop.drop.drop.drop | exact H.drop.drop.drop.drop.drop.drop.drop.drop
              refine ⟨hS, ?_⟩
              refine JH.all [7] (by kernel_rfl) (by decide) ?_
              refine JHO.does (listed' := [true, true, true, true, true, true, true, true]) rfl rfl trivial (by first | exact EX.storeAgg H rfl rfl (i := 0) rfl (by simp [isCell]) (by simp) sz25 rfl rfl | exact EX.storeAgg H rfl rfl (i := 1) rfl (by simp [isCell]) (by simp) sz25 rfl rfl | exact EX.storeAgg H rfl rfl (i := 2) rfl (by simp [isCell]) (by simp) sz25 rfl rfl | exact EX.storeAgg H rfl rfl (i := 3) rfl (by simp [isCell]) (by simp) sz25 rfl rfl | exact EX.storeAgg H rfl rfl (i := 4) rfl (by simp [isCell]) (by simp) sz25 rfl rfl | exact EX.storeAgg H rfl rfl (i := 5) rfl (by simp [isCell]) (by simp) sz25 rfl rfl | exact EX.storeAgg H rfl rfl (i := 6) rfl (by simp [isCell]) (by simp) sz25 rfl rfl | exact EX.storeAgg H rfl rfl (i := 7) rfl (by simp [isCell]) (by simp) sz25 rfl rfl | exact EX.storeAgg H rfl rfl (i := 8) rfl (by simp [isCell]) (by simp) sz25 rfl rfl | exact EX.storeAgg H rfl rfl (i := 9) rfl (by simp [isCell]) (by simp) sz25 rfl rfl | exact EX.storeAgg H rfl rfl (i := 10) rfl (by simp [isCell]) (by simp) sz25 rfl rfl | exact EX.storeAgg H rfl rfl (i := 11) rfl (by simp [isCell]) (by simp) sz25 rfl rfl | exact EX.storeAgg H rfl rfl (i := 12) rfl (by simp [isCell]) (by simp) sz25 rfl rfl | exact EX.storeAgg H rfl rfl (i := 13) rfl (by simp [isCell]) (by simp) sz25 rfl rfl | exact EX.storeAgg H rfl rfl (i := 14) rfl (by simp [isCell]) (by simp) sz25 rfl rfl | exact EX.storeAgg H rfl rfl (i := 15) rfl (by simp [isCell]) (by simp) sz25 rfl rfl) ?_
              rintro _ w H
              have hS : Hp w0 w ([(b2, cel (tv kb nb pb mb cb) 25)] :: [(b1, cel (tv ka na pa ma ca) 25)] :: F) := by first | exact H | exact H.drop | exact H.drop.drop | exact H.drop.drop.drop | exact H.drop.drop.drop.drop | exact H.drop.drop.drop.drop.drop | exact H.drop.drop.drop.drop.drop.drop | exact H.drop.drop.drop.drop.drop.drop.drop | exact H.drop.drop.drop.drop.drop.drop.drop.drop
              refine ⟨hS, ?_⟩
              refine JH.done (by kernel_rfl) ?_
              exact hk2 (b8, b9, tv kx nx px mx cx, tv ky ny py my cy, s1, s2) _ _ ⟨rfl, rfl, rfl, trivial⟩ ⟨rfl, rfl, trivial⟩ ⟨ox, oy, (by first | exact ((((H.pull 0 rfl).pull 1 rfl).pull 2 rfl).pull 3 rfl) | exact ((((H.pull 0 rfl).pull 1 rfl).pull 3 rfl).pull 3 rfl) | exact ((((H.pull 0 rfl).pull 2 rfl).pull 2 rfl).pull 3 rfl) | exact ((((H.pull 0 rfl).pull 2 rfl).pull 3 rfl).pull 3 rfl) | exact ((((H.pull 0 rfl).pull 3 rfl).pull 2 rfl).pull 3 rfl) | exact ((((H.pull 0 rfl).pull 3 rfl).pull 3 rfl).pull 3 rfl) | exact ((((H.pull 1 rfl).pull 1 rfl).pull 2 rfl).pull 3 rfl) | exact ((((H.pull 1 rfl).pull 1 rfl).pull 3 rfl).pull 3 rfl) | exact ((((H.pull 1 rfl).pull 2 rfl).pull 2 rfl).pull 3 rfl) | exact ((((H.pull 1 rfl).pull 2 rfl).pull 3 rfl).pull 3 rfl) | exact ((((H.pull 1 rfl).pull 3 rfl).pull 2 rfl).pull 3 rfl) | exact ((((H.pull 1 rfl).pull 3 rfl).pull 3 rfl).pull 3 rfl) | exact ((((H.pull 2 rfl).pull 1 rfl).pull 2 rfl).pull 3 rfl) | exact ((((H.pull 2 rfl).pull 1 rfl).pull 3 rfl).pull 3 rfl) | exact ((((H.pull 2 rfl).pull 2 rfl).pull 2 rfl).pull 3 rfl) | exact ((((H.pull 2 rfl).pull 2 rfl).pull 3 rfl).pull 3 rfl) | exact ((((H.pull 2 rfl).pull 3 rfl).pull 2 rfl).pull 3 rfl) | exact ((((H.pull 2 rfl).pull 3 rfl).pull 3 rfl).pull 3 rfl) | exact ((((H.pull 3 rfl).pull 1 rfl).pull 2 rfl).pull 3 rfl) | exact ((((H.pull 3 rfl).pull 1 rfl).pull 3 rfl).pull 3 rfl) | exact ((((H.pull 3 rfl).pull 2 rfl).pull 2 rfl).pull 3 rfl) | exact ((((H.pull 3 rfl).pull 2 rfl).pull 3 rfl).pull 3 rfl) | exact ((((H.pull 3 rfl).pull 3 rfl).pull 2 rfl).pull 3 rfl) | exact ((((H.pull 3 rfl).pull 3 rfl).pull 3 rfl).pull 3 rfl))⟩
          · skip
            refine JHO.does (listed' := [true, false, true, false, true, true, false, false]) rfl rfl trivial (EX.alloc H zr25 rfl) ?_
            rintro _ w ⟨b9, rfl, H⟩
            have hS : Hp w0 w ([(b2, cel (tv kb nb pb mb cb) 25)] :: [(b1, cel (tv ka na pa ma ca) 25)] :: F) := by first | exact H | exact H.drop | exact H.drop.drop | exact H.drop.drop.drop | exact H.drop.drop.drop.drop | exact H.drop.drop.drop.drop.drop | exact H.drop.drop.drop.drop.drop.drop | exact H.drop.drop.drop.drop.drop.drop.drop | exact H.drop.drop.drop.drop.drop.drop.drop.drop
            refine ⟨hS, ?_⟩
            refine JH.all [1] (by kernel_rfl) (by decide) ?_
            refine JHO.does (listed' := [true, true, true, false, true, true, false, false]) rfl rfl trivial (EX.call rfl cl20 rfl ((by first | exact lcopied_b ta (by omega) _ _ _ _ H (Tr.Is.cons (Tr.Is.cons (ha))) | exact lcopied_b ta (by omega) _ _ _ _ H (Tr.Is.cons (Tr.Is.cons (Tr.Is.cons (ha)))) | exact lcopied_b ta (by omega) _ _ _ _ H (Tr.Is.cons (Tr.Is.cons (Tr.Is.cons (Tr.Is.cons (ha))))) | exact lcopied_b ta (by omega) _ _ _ _ H (Tr.Is.cons (Tr.Is.cons (Tr.Is.cons (Tr.Is.cons (Tr.Is.cons (ha))))))))) ?_
            rintro _ w ⟨vx, s1, rfl, ox, H⟩
            obtain ⟨kx, nx, px, mx, cx, rfl⟩ := ox.shape
            have hS : Hp w0 w ([(b2, cel (tv kb nb pb mb cb) 25)] :: [(b1, cel (tv ka na pa ma ca) 25)] :: F) := by first | exact H | exact H.drop | exact H.drop.drop | exact H.drop.drop.drop | exact H.drop.drop.drop.drop | exact H.drop.drop.drop.drop.drop | exact H.drop.drop.drop.drop.drop.drop | exact H.drop.drop.drop.drop.drop.drop.drop | exact H.drop.drop.drop.drop.drop.drop.drop.drop
            refine ⟨hS, ?_⟩
            refine JH.all [3] (by kernel_rfl) (by decide) ?_
            refine JHO.does (listed' := [true, true, true, true, true, true, false, false]) rfl rfl trivial (EX.call rfl cl20 rfl ((by first | exact lcopied_b tb (by omega) _ _ _ _ H (Tr.Is.cons (Tr.Is.cons (hb))) | exact lcopied_b tb (by omega) _ _ _ _ H (Tr.Is.cons (Tr.Is.cons (Tr.Is.cons (hb)))) | exact lcopied_b tb (by omega) _ _ _ _ H (Tr.Is.cons (Tr.Is.cons (Tr.Is.cons (Tr.Is.cons (hb))))) | exact lcopied_b tb (by omega) _ _ _ _ H (Tr.Is.cons (Tr.Is.cons (Tr.Is.cons (Tr.Is.cons (Tr.Is.cons (hb))))))))) ?_
            rintro _ w ⟨vy, s2, rfl, oy, H⟩
            obtain ⟨ky, ny, py, my, cy, rfl⟩ := oy.shape
            have hS : Hp w0 w ([(b2, cel (tv kb nb pb mb cb) 25)] :: [(b1, cel (tv ka na pa ma ca) 25)] :: F) := by first | exact H | exact H.drop | exact H.drop.drop | exact H.drop.drop.drop | exact H.drop.drop.drop.drop | exact H.drop.drop.drop.drop.drop | exact H.drop.drop.drop.drop.drop.drop | exact H.drop.drop.drop.drop.drop.drop.drop | exact H.drop.drop.drop.drop.drop.drop.drop.drop
            refine ⟨hS, ?_⟩
            refine JH.all [6] (by kernel_rfl) (by decide) ?_
            refine JHO.does (listed' := [true, true, true, true, true, true, true, false]) rfl rfl trivial (by first | exact EX.storeAgg H rfl rfl (i := 0) rfl (by simp [isCell]) (by simp) sz25 rfl rfl | exact EX.storeAgg H rfl rfl (i := 1) rfl (by simp [isCell]) (by simp) sz25 rfl rfl | exact EX.storeAgg H rfl rfl (i := 2) rfl (by simp [isCell]) (by simp) sz25 rfl rfl | exact EX.storeAgg H rfl rfl (i := 3) rfl (by simp [isCell]) (by simp) sz25 rfl rfl | exact EX.storeAgg H rfl rfl (i := 4) rfl (by simp [isCell]) (by simp) sz25 rfl rfl | exact EX.storeAgg H rfl rfl (i := 5) rfl (by simp [isCell]) (by simp) sz25 rfl rfl | exact EX.storeAgg H rfl rfl (i := 6) rfl (by simp [isCell]) (by simp) sz25 rfl rfl | exact EX.storeAgg H rfl rfl (i := 7) rfl (by simp [isCell]) (by simp) sz25 rfl rfl | exact EX.storeAgg H rfl rfl (i := 8) rfl (by simp [isCell]) (by simp) sz25 rfl rfl | exact EX.storeAgg H rfl rfl (i := 9) rfl (by simp [isCell]) (by simp) sz25 rfl rfl | exact EX.storeAgg H rfl rfl (i := 10) rfl (by simp [isCell]) (by simp) sz25 rfl rfl | exact EX.storeAgg H rfl rfl (i := 11) rfl (by simp [isCell]) (by simp) sz25 rfl rfl | exact EX.storeAgg H rfl rfl (i := 12) rfl (by simp [isCell]) (by simp) sz25 rfl rfl | exact EX.storeAgg H rfl rfl (i := 13) rfl (by simp [isCell]) (by simp) sz25 rfl rfl | exact EX.storeAgg H rfl rfl (i := 14) rfl (by simp [isCell]) (by simp) sz25 rfl rfl | exact EX.storeAgg H rfl rfl (i := 15) rfl (by simp [isCell]) (by simp) sz25 rfl rfl) ?_
            rintro _ w H
            have hS : Hp w0 w ([(b2, cel (tv kb nb pb mb cb) 25)] :: [(b1, cel (tv ka na pa ma ca) 25)] :: F) := by first | exact H | exact H.drop | exact H.drop.drop | exact H.drop.drop.drop | exact H.drop.drop.drop.drop | exact H.drop.drop.drop.drop.drop | exact H.drop.drop.drop.drop.drop.drop | exact H.drop.drop.drop.drop.drop.drop.drop | exact H.drop.drop.drop.drop.drop.drop.drop.drop
            refine ⟨hS, ?_⟩
            refine JH.all [7] (by kernel_rfl) (by decide) ?_
            refine JHO.does (listed' := [true, true, true, true, true, true, true, true]) rfl rfl trivial (by first | exact EX.storeAgg H rfl rfl (i := 0) rfl (by simp [isCell]) (by simp) sz25 rfl rfl | exact EX.storeAgg H rfl rfl (i := 1) rfl (by simp [isCell]) (by simp) sz25 rfl rfl | exact EX.storeAgg H rfl rfl (i := 2) rfl (by simp [isCell]) (by simp) sz25 rfl rfl | exact EX.storeAgg H rfl rfl (i := 3) rfl (by simp [isCell]) (by simp) sz25 rfl rfl | exact EX.storeAgg H rfl rfl (i := 4) rfl (by simp [isCell]) (by simp) sz25 rfl rfl | exact EX.storeAgg H rfl rfl (i := 5) rfl (by simp [isCell]) (by simp) sz25 rfl rfl | exact EX.storeAgg H rfl rfl (i := 6) rfl (by simp [isCell]) (by simp) sz25 rfl rfl | exact EX.storeAgg H rfl rfl (i := 7) rfl (by simp [isCell]) (by simp) sz25 rfl rfl | exact EX.storeAgg H rfl rfl (i := 8) rfl (by simp [isCell]) (by simp) sz25 rfl rfl | exact EX.storeAgg H rfl rfl (i := 9) rfl (by simp [isCell]) (by simp) sz25 rfl rfl | exact EX.storeAgg H rfl rfl (i := 10) rfl (by simp [isCell]) (by simp) sz25 rfl rfl | exact EX.storeAgg H rfl rfl (i := 11) rfl (by simp [isCell]) (by simp) sz25 rfl rfl | exact EX.storeAgg H rfl rfl (i := 12) rfl (by simp [isCell]) (by simp) sz25 rfl rfl | exact EX.storeAgg H rfl rfl (i := 13) rfl (by simp [isCell]) (by simp) sz25 rfl rfl | exact EX.storeAgg H rfl rfl (i := 14) rfl (by simp [isCell]) (by simp) sz25 rfl rfl | exact EX.storeAgg H rfl rfl (i := 15) rfl (by simp [isCell]) (by simp) sz25 rfl rfl) ?_
            rintro _ w H
            have hS : Hp w0 w ([(b2, cel (tv kb nb pb mb cb) 25)] :: [(b1, cel (tv ka na pa ma ca) 25)] :: F) := by first | exact H | exact H.drop | exact H.drop.drop | exact H.drop.drop.drop | exact H.drop.drop.drop.drop | exact H.drop.drop.drop.drop.drop | exact H.drop.drop.drop.drop.drop.drop | exact H.drop.drop.drop.drop.drop.drop.drop | exact H.drop.drop.drop.drop.drop.drop.drop.drop
            refine ⟨hS, ?_⟩
            refine JH.done (by kernel_rfl) ?_
            exact hk2 (b8, b9, tv kx nx px mx cx, tv ky ny py my cy, s1, s2) _ _ ⟨rfl, rfl, rfl, trivial⟩ ⟨rfl, rfl, trivial⟩ ⟨ox, oy, (by first | exact ((((H.pull 0 rfl).pull 1 rfl).pull 2 rfl).pull 3 rfl) | exact ((((H.pull 0 rfl).pull 1 rfl).pull 3 rfl).pull 3 rfl) | exact ((((H.pull 0 rfl).pull 2 rfl).pull 2 rfl).pull 3 rfl) | exact ((((H.pull 0 rfl).pull 2 rfl).pull 3 rfl).pull 3 rfl) | exact ((((H.pull 0 rfl).pull 3 rfl).pull 2 rfl).pull 3 rfl) | exact ((((H.pull 0 rfl).pull 3 rfl).pull 3 rfl).pull 3 rfl) | exact ((((H.pull 1 rfl).pull 1 rfl).pull 2 rfl).pull 3 rfl) | exact ((((H.pull 1 rfl).pull 1 rfl).pull 3 rfl).pull 3 rfl) | exact ((((H.pull 1 rfl).pull 2 rfl).pull 2 rfl).pull 3 rfl) | exact ((((H.pull 1 rfl).pull 2 rfl).pull 3 rfl).pull 3 rfl) | exact ((((H.pull 1 rfl).pull 3 rfl).pull 2 rfl).pull 3 rfl) | exact ((((H.pull 1 rfl).pull 3 rfl).pull 3 rfl).pull 3 rfl) | exact ((((H.pull 2 rfl).pull 1 rfl).pull 2 rfl).pull 3 rfl) | exact ((((H.pull 2 rfl).pull 1 rfl).pull 3 rfl).pull 3 rfl) | exact ((((H.pull 2 rfl).pull 2 rfl).pull 2 rfl).pull 3 rfl) | exact ((((H.pull 2 rfl).pull 2 rfl).pull 3 rfl).pull 3 rfl) | exact ((((H.pull 2 rfl).pull 3 rfl).pull 2 rfl).pull 3 rfl) | exact ((((H.pull 2 rfl).pull 3 rfl).pull 3 rfl).pull 3 rfl) | exact ((((H.pull 3 rfl).pull 1 rfl).pull 2 rfl).pull 3 rfl) | exact ((((H.pull 3 rfl).pull 1 rfl).pull 3 rfl).pull 3 rfl) | exact ((((H.pull 3 rfl).pull 2 rfl).pull 2 rfl).pull 3 rfl) | exact ((((H.pull 3 rfl).pull 2 rfl).pull 3 rfl).pull 3 rfl) | exact ((((H.pull 3 rfl).pull 3 rfl).pull 2 rfl).pull 3 rfl) | exact ((((H.pull 3 rfl).pull 3 rfl).pull 3 rfl).pull 3 rfl))⟩
        · skip
          refine JHO.does (listed' := [true, false, true, false, false, true, false, false]) rfl rfl trivial (EX.alloc H zr25 rfl) ?_
          rintro _ w ⟨b9, rfl, H⟩
          have hS : Hp w0 w ([(b2, cel (tv kb nb pb mb cb) 25)] :: [(b1, cel (tv ka na pa ma ca) 25)] :: F) := by first | exact H | exact H.drop | exact H.drop.drop | exact H.drop.drop.drop | exact H.drop.drop.drop.drop | exact H.drop.drop.drop.drop.drop | exact H.drop.drop.drop.drop.drop.drop | exact H.drop.drop.drop.drop.drop.drop.drop | exact H.drop.drop.drop.drop.drop.drop.drop.drop
          refine ⟨hS, ?_⟩
          refine JH.all [1, 4] (by kernel_rfl) (by decide) ?_
          refine ⟨?_, ?_⟩
          · skip
            refine JHO.does (listed' := [true, true, true, false, false, true, false, false]) rfl rfl trivial (EX.call rfl cl20 rfl ((by first | exact lcopied_b ta (by omega) _ _ _ _ H (Tr.Is.cons (Tr.Is.cons (ha))) | exact lcopied_b ta (by omega) _ _ _ _ H (Tr.Is.cons (Tr.Is.cons (Tr.Is.cons (ha)))) | exact lcopied_b ta (by omega) _ _ _ _ H (Tr.Is.cons (Tr.Is.cons (Tr.Is.cons (Tr.Is.cons (ha))))) | exact lcopied_b ta (by omega) _ _ _ _ H (Tr.Is.cons (Tr.Is.cons (Tr.Is.cons (Tr.Is.cons (Tr.Is.cons (ha))))))))) ?_
            rintro _ w ⟨vx, s1, rfl, ox, H⟩
            obtain ⟨kx, nx, px, mx, cx, rfl⟩ := ox.shape
            have hS : Hp w0 w ([(b2, cel (tv kb nb pb mb cb) 25)] :: [(b1, cel (tv ka na pa ma ca) 25)] :: F) := by first | exact H | exact H.drop | exact H.drop.drop | exact H.drop.drop.drop | exact H.drop.drop.drop.drop | exact H.drop.drop.drop.drop.drop | exact H.drop.drop.drop.drop.drop.drop | exact H.drop.drop.drop.drop.drop.drop.drop | exact H.drop.drop.drop.drop.drop.drop.drop.drop
            refine ⟨hS, ?_⟩
            refine JH.all [3, 4] (by kernel_rfl) (by decide) ?_
            refine ⟨?_, ?_⟩
            · skip
              refine JHO.does (listed' := [true, true, true, true, false, true, false, false]) rfl rfl trivial (EX.call rfl cl20 rfl ((by first | exact lcopied_b tb (by omega) _ _ _ _ H (Tr.Is.cons (Tr.Is.cons (hb))) | exact lcopied_b tb (by omega) _ _ _ _ H (Tr.Is.cons (Tr.Is.cons (Tr.Is.cons (hb)))) | exact lcopied_b tb (by omega) _ _ _ _ H (Tr.Is.cons (Tr.Is.cons (Tr.Is.cons (Tr.Is.cons (hb))))) | exact lcopied_b tb (by omega) _ _ _ _ H (Tr.Is.cons (Tr.Is.cons (Tr.Is.cons (Tr.Is.cons (Tr.Is.cons (hb))))))))) ?_
              rintro _ w ⟨vy, s2, rfl, oy, H⟩
              obtain ⟨ky, ny, py, my, cy, rfl⟩ := oy.shape
              have hS : Hp w0 w ([(b2, cel (tv kb nb pb mb cb) 25)] :: [(b1, cel (tv ka na pa ma ca) 25)] :: F) := by first | exact H | exact H.drop | exact H.drop.drop | exact H.drop.drop.drop | exact H.drop.drop.drop.drop | exact H.drop.drop.drop.drop.drop | exact H.drop.drop.drop.drop.drop.drop | exact H.drop.drop.drop.drop.drop.drop.drop | exact H.drop.drop.drop.drop.drop.drop.drop.drop
              refine ⟨hS, ?_⟩
              refine JH.all [4] (by kernel_rfl) (by decide) ?_
              refine JHO.does (listed' := [true, true, true, true, true, true, false, false]) rfl rfl trivial (EX.alloc H zr25 rfl) ?_
              rintro _ w ⟨b8, rfl, H⟩
              have hS : Hp w0 w ([(b2, cel (tv kb nb pb mb cb) 25)] :: [(b1, cel (tv ka na pa ma ca) 25)] :: F) := by first | exact H | exact H.drop | exact H.drop.drop | exact H.drop.drop.drop | exact H.drop.drop.drop.drop | exact H.drop.drop.drop.drop.drop | exact H.drop.drop.drop.drop.drop.drop | exact H.drop.drop.drop.drop.drop.drop.drop | exact H.drop.drop.drop.drop.drop.drop.drop.drop
              refine ⟨hS, ?_⟩
              refine JH.all [6] (by kernel_rfl) (by decide) ?_
              refine JHO.does (listed' := [true, true, true, true, true, true, true, false]) rfl rfl trivial (by first | exact EX.storeAgg H rfl rfl (i := 0) rfl (by simp [isCell]) (by simp) sz25 rfl rfl | exact EX.storeAgg H rfl rfl (i := 1) rfl (by simp [isCell]) (by simp) sz25 rfl rfl | exact EX.storeAgg H rfl rfl (i := 2) rfl (by simp [isCell]) (by simp) sz25 rfl rfl | exact EX.storeAgg H rfl rfl (i := 3) rfl (by simp [isCell]) (by simp) sz25 rfl rfl | exact EX.storeAgg H rfl rfl (i := 4) rfl (by simp [isCell]) (by simp) sz25 rfl rfl | exact EX.storeAgg H rfl rfl (i := 5) rfl (by simp [isCell]) (by simp) sz25 rfl rfl | exact EX.storeAgg H rfl rfl (i := 6) rfl (by simp [isCell]) (by simp) sz25 rfl rfl | exact EX.storeAgg H rfl rfl (i := 7) rfl (by simp [isCell]) (by simp) sz25 rfl rfl | exact EX.storeAgg H rfl rfl (i := 8) rfl (by simp [isCell]) (by simp) sz25 rfl rfl | exact EX.storeAgg H rfl rfl (i := 9) rfl (by simp [isCell]) (by simp) sz25 rfl rfl | exact EX.storeAgg H rfl rfl (i := 10) rfl (by simp [isCell]) (by simp) sz25 rfl rfl | exact EX.storeAgg H rfl rfl (i := 11) rfl (by simp [isCell]) (by simp) sz25 rfl rfl | exact EX.storeAgg H rfl rfl (i := 12) rfl (by simp [isCell]) (by simp) sz25 rfl rfl | exact EX.storeAgg H rfl rfl (i := 13) rfl (by simp [isCell]) (by simp) sz25 rfl rfl | exact EX.storeAgg H rfl rfl (i := 14) rfl (by simp [isCell]) (by simp) sz25 rfl rfl | exact EX.storeAgg H rfl rfl (i := 15) rfl (by simp [isCell]) (by simp) sz25 rfl rfl) ?_
              rintro _ w H
              have hS : Hp w0 w ([(b2, cel (tv kb nb pb mb cb) 25)] :: [(b1, cel (tv ka na pa ma ca) 25)] :: F) := by first | exact H | exact H.drop | exact H.drop.drop | exact H.drop.drop.drop | exact H.drop.drop.drop.drop | exact H.drop.drop.drop.drop.drop | exact H.drop.drop.drop.drop.drop.drop | exact H.drop.drop.drop.drop.drop.drop.drop | exact H.drop.drop.drop.drop.drop.drop.drop.drop
              refine ⟨hS, ?_⟩
              refine JH.all [7] (by kernel_rfl) (by decide) ?_
              refine JHO.does (listed' := [true, true, true, true, true, true, true, true]) rfl rfl trivial (by first | exact EX.storeAgg H rfl rfl (i := 0) rfl (by simp [isCell]) (by simp) sz25 rfl rfl | exact EX.storeAgg H rfl rfl (i := 1) rfl (by simp [isCell]) (by simp) sz25 rfl rfl | exact EX.storeAgg H rfl rfl (i := 2) rfl (by simp [isCell]) (by simp) sz25 rfl rfl | exact EX.storeAgg H rfl rfl (i := 3) rfl (by simp [isCell]) (by simp) sz25 rfl rfl | exact EX.storeAgg H rfl rfl (i := 4) rfl (by simp [isCell]) (by simp) sz25 rfl rfl | exact EX.storeAgg H rfl rfl (i := 5) rfl (by simp [isCell]) (by simp) sz25 rfl rfl | exact EX.storeAgg H rfl rfl (i := 6) rfl (by simp [isCell]) (by simp) sz25 rfl rfl | exact EX.storeAgg H rfl rfl (i := 7) rfl (by simp [isCell]) (by simp) sz25 rfl rfl | exact EX.storeAgg H rfl rfl (i := 8) rfl (by simp [isCell]) (by simp) sz25 rfl rfl | exact EX.storeAgg H rfl rfl (i := 9) rfl (by simp [isCell]) (by simp) sz25 rfl rfl | exact EX.storeAgg H rfl rfl (i := 10) rfl (by simp [isCell]) (by simp) sz25 rfl rfl | exact EX.storeAgg H rfl rfl (i := 11) rfl (by simp [isCell]) (by simp) sz25 rfl rfl | exact EX.storeAgg H rfl rfl (i := 12) rfl (by simp [isCell]) (by simp) sz25 rfl rfl | exact EX.storeAgg H rfl rfl (i := 13) rfl (by simp [isCell]) (by simp) sz25 rfl rfl | exact EX.storeAgg H rfl rfl (i := 14) rfl (by simp [isCell]) (by simp) sz25 rfl rfl | exact EX.storeAgg H rfl rfl (i := 15) rfl (by simp [isCell]) (by simp) sz25 rfl rfl) ?_
              rintro _ w H
              have hS : Hp w0 w ([(b2, cel (tv kb nb pb mb cb) 25)] :: [(b1, cel (tv ka na pa ma ca) 25)] :: F) := by first | exact H | exact H.drop | exact H.drop.drop | exact H.drop.drop.drop | exact H.drop.drop.drop.drop | exact H.drop.drop.drop.drop.drop | exact H.drop.drop.drop.drop.drop.drop | exact H.drop.drop.drop.drop.drop.drop.drop | exact H.drop.drop.drop.drop.drop.drop.drop.drop
              refine ⟨hS, ?_⟩
              refine JH.done (by kernel_rfl) ?_
              exact hk2 (b8, b9, tv kx nx px mx cx, tv ky ny py my cy, s1, s2) _ _ ⟨rfl, rfl, rfl, trivial⟩ ⟨rfl, rfl, trivial⟩ ⟨ox, oy, (by first | exact ((((H.pull 0 rfl).pull 1 rfl).pull 2 rfl).pull 3 rfl) | exact ((((H.pull 0 rfl).pull 1 rfl).pull 3 rfl).pull 3 rfl) | exact ((((H.pull 0 rfl).pull 2 rfl).pull 2 rfl).pull 3 rfl) | exact ((((H.pull 0 rfl).pull 2 rfl).pull 3 rfl).pull 3 rfl) | exact ((((H.pull 0 rfl).pull 3 rfl).pull 2 rfl).pull 3 rfl) | exact ((((H.pull 0 rfl).pull 3 rfl).pull 3 rfl).pull 3 rfl) | exact ((((H.pull 1 rfl).pull 1 rfl).pull 2 rfl).pull 3 rfl) | exact ((((H.pull 1 rfl).pull 1 rfl).pull 3 rfl).pull 3 rfl) | exact ((((H.pull 1 rfl).pull 2 rfl).pull 2 rfl).pull 3 rfl) | exact ((((H.pull 1 rfl).pull 2 rfl).pull 3 rfl).pull 3 rfl) | exact ((((H.pull 1 rfl).pull 3 rfl).pull 2 rfl).pull 3 rfl) | exact ((((H.pull 1 rfl).pull 3 rfl).pull 3 rfl).pull 3 rfl) | exact ((((H.pull 2 rfl).pull 1 rfl).pull 2 rfl).pull 3 rfl) | exact ((((H.pull 2 rfl).pull 1 rfl).pull 3 rfl).pull 3 rfl) | exact ((((H.pull 2 rfl).pull 2 rfl).pull 2 rfl).pull 3 rfl) | exact ((((H.pull 2 rfl).pull 2 rfl).pull 3 rfl).pull 3 rfl) | exact ((((H.pull 2 rfl).pull 3 rfl).pull 2 rfl).pull 3 rfl) | exact ((((H.pull 2 rfl).pull 3 rfl).pull 3 rfl).pull 3 rfl) | exact ((((H.pull 3 rfl).pull 1 rfl).pull 2 rfl).pull 3 rfl) | exact ((((H.pull 3 rfl).pull 1 rfl).pull 3 rfl).pull 3 rfl) | exact ((((H.pull 3 rfl).pull 2 rfl).pull 2 rfl).pull 3 rfl) | exact ((((H.pull 3 rfl).pull 2 rfl).pull 3 rfl).pull 3 rfl) | exact ((((H.pull 3 rfl).pull 3 rfl).pull 2 rfl).pull 3 rfl) | exact ((((H.pull 3 rfl).pull 3 rfl).pull 3 rfl).pull 3 rfl))⟩
            · skip
              refine JHO.does (listed' := [true, true, true, false, true, true, false, false]) rfl rfl trivial (EX.alloc H zr25 rfl) ?_
              rintro _ w ⟨b8, rfl, H⟩
              have hS : Hp w0 w ([(b2, cel (tv kb nb pb mb cb) 25)] :: [(b1, cel (tv ka na pa ma ca) 25)] :: F) := by first | exact H | exact H.drop | exact H.drop.drop | exact H.drop.drop.drop | exact H.drop.drop.drop.drop | exact H.drop.drop.drop.drop.drop | exact H.drop.drop.drop.drop.drop.drop | exact H.drop.drop.drop.drop.drop.drop.drop | exact H.drop.drop.drop.drop.drop.drop.drop.drop
              refine ⟨hS, ?_⟩
              refine JH.all [3] (by kernel_rfl) (by decide) ?_
              refine JHO.does (listed' := [true, true, true, true, true, true, false, false]) rfl rfl trivial (EX.call rfl cl20 rfl ((by first | exact lcopied_b tb (by omega) _ _ _ _ H (Tr.Is.cons (Tr.Is.cons (hb))) | exact lcopied_b tb (by omega) _ _ _ _ H (Tr.Is.cons (Tr.Is.cons (Tr.Is.cons (hb)))) | exact lcopied_b tb (by omega) _ _ _ _ H (Tr.Is.cons (Tr.Is.cons (Tr.Is.cons (Tr.Is.cons (hb))))) | exact lcopied_b tb (by omega) _ _ _ _ H (Tr.Is.cons (Tr.Is.cons (Tr.Is.cons (Tr.Is.cons (Tr.Is.cons (hb))))))))) ?_
              rintro _ w ⟨vy, s2, rfl, oy, H⟩
              obtain ⟨ky, ny, py, my, cy, rfl⟩ := oy.shape
              have hS : Hp w0 w ([(b2, cel (tv kb nb pb mb cb) 25)] :: [(b1, cel (tv ka na pa ma ca) 25)] :: F) := by first | exact H | exact H.drop | exact H.drop.drop | exact H.drop.drop.drop | exact H.drop.drop.drop.drop | exact H.drop.drop.drop.drop.drop | exact H.drop.drop.drop.drop.drop.drop | exact H.drop.drop.drop.drop.drop.drop.drop | exact H.drop.drop.drop.drop.drop.drop.drop.drop
              refine ⟨hS, ?_⟩
              refine JH.all [6] (by kernel_rfl) (by decide) ?_
              refine JHO.does (listed' := [true, true, true, true, true, true, true, false]) rfl rfl trivial (by first | exact EX.storeAgg H rfl rfl (i := 0) rfl (by simp [isCell]) (by simp) sz25 rfl rfl | exact EX.storeAgg H rfl rfl (i := 1) rfl (by simp [isCell]) (by simp) sz25 rfl rfl | exact EX.storeAgg H rfl rfl (i := 2) rfl (by simp [isCell]) (by simp) sz25 rfl rfl | exact EX.storeAgg H rfl rfl (i := 3) rfl (by simp [isCell]) (by simp) sz25 rfl rfl | exact EX.storeAgg H rfl rfl (i := 4) rfl (by simp [isCell]) (by simp) sz25 rfl rfl | exact EX.storeAgg H rfl rfl (i := 5) rfl (by simp [isCell]) (by simp) sz25 rfl rfl | exact EX.storeAgg H rfl rfl (i := 6) rfl (by simp [isCell]) (by simp) sz25 rfl rfl | exact EX.storeAgg H rfl rfl (i := 7) rfl (by simp [isCell]) (by simp) sz25 rfl rfl | exact EX.storeAgg H rfl rfl (i := 8) rfl (by simp [isCell]) (by simp) sz25 rfl rfl | exact EX.storeAgg H rfl rfl (i := 9) rfl (by simp [isCell]) (by simp) sz25 rfl rfl | exact EX.storeAgg H rfl rfl (i := 10) rfl (by simp [isCell]) (by simp) sz25 rfl rfl | exact EX.storeAgg H rfl rfl (i := 11) rfl (by simp [isCell]) (by simp) sz25 rfl rfl | exact EX.storeAgg H rfl rfl (i := 12) rfl (by simp [isCell]) (by simp) sz25 rfl rfl | exact EX.storeAgg H rfl rfl (i := 13) rfl (by simp [isCell]) (by simp) sz25 rfl rfl | exact EX.storeAgg H rfl rfl (i := 14) rfl (by simp [isCell]) (by simp) sz25 rfl rfl | exact EX.storeAgg H rfl rfl (i := 15) rfl (by simp [isCell]) (by simp) sz25 rfl rfl) ?_
              rintro _ w H
              have hS : Hp w0 w ([(b2, cel (tv kb nb pb mb cb) 25)] :: [(b1, cel (tv ka na pa ma ca) 25)] :: F) := by first | exact H | exact H.drop | exact H.drop.drop | exact H.drop.drop.drop | exact H.drop.drop.drop.drop | exact H.drop.drop.drop.drop.drop | exact H.drop.drop.drop.drop.drop.drop | exact H.drop.drop.drop.drop.drop.drop.drop | exact H.drop.drop.drop.drop.drop.drop.drop.drop
              refine ⟨hS, ?_⟩
              refine JH.all [7] (by kernel_rfl) (by decide) ?_
              refine JHO.does (listed' := [true, true, true, true, true, true, true, true]) rfl rfl trivial (by first | exact EX.storeAgg H rfl rfl (i := 0) rfl (by simp [isCell]) (by simp) sz25 rfl rfl | exact EX.storeAgg H rfl rfl (i := 1) rfl (by simp [isCell]) (by simp) sz25 rfl rfl | exact EX.storeAgg H rfl rfl (i := 2) rfl (by simp [isCell]) (by simp) sz25 rfl rfl | exact EX.storeAgg H rfl rfl (i := 3) rfl (by simp [isCell]) (by simp) sz25 rfl rfl | exact EX.storeAgg H rfl rfl (i := 4) rfl (by simp [isCell]) (by simp) sz25 rfl rfl | exact EX.storeAgg H rfl rfl (i := 5) rfl (by simp [isCell]) (by simp) sz25 rfl rfl | exact EX.storeAgg H rfl rfl (i := 6) rfl (by simp [isCell]) (by simp) sz25 rfl rfl | exact EX.storeAgg H rfl rfl (i := 7) rfl (by simp [isCell]) (by simp) sz25 rfl rfl | exact EX.storeAgg H rfl rfl (i := 8) rfl (by simp [isCell]) (by simp) sz25 rfl rfl | exact EX.storeAgg H rfl rfl (i := 9) rfl (by simp [isCell]) (by simp) sz25 rfl rfl | exact EX.storeAgg H rfl rfl (i := 10) rfl (by simp [isCell]) (by simp) sz25 rfl rfl | exact EX.storeAgg H rfl rfl (i := 11) rfl (by simp [isCell]) (by simp) sz25 rfl rfl | exact EX.storeAgg H rfl rfl (i := 12) rfl (by simp [isCell]) (by simp) sz25 rfl rfl | exact EX.storeAgg H rfl rfl (i := 13) rfl (by simp [isCell]) (by simp) sz25 rfl rfl | exact EX.storeAgg H rfl rfl (i := 14) rfl (by simp [isCell]) (by simp) sz25 rfl rfl | exact EX.storeAgg H rfl rfl (i := 15) rfl (by simp [isCell]) (by simp) sz25 rfl rfl) ?_
              rintro _ w H
              have hS : Hp w0 w ([(b2, cel (tv kb nb pb mb cb) 25)] :: [(b1, cel (tv ka na pa ma ca) 25)] :: F) := by first | exact H | exact H.drop | exact H.drop.drop | exact H.drop.drop.drop | exact H.drop.drop.drop.drop | exact H.drop.drop.drop.drop.drop | exact H.drop.drop.drop.drop.drop.drop | exact H.drop.drop.drop.drop.drop.drop.drop | exact H.drop.drop.drop.drop.drop.drop.drop.drop
              refine ⟨hS, ?_⟩
              refine JH.done (by kernel_rfl) ?_
              exact hk2 (b8, b9, tv kx nx px mx cx, tv ky ny py my cy, s1, s2) _ _ ⟨rfl, rfl, rfl, trivial⟩ ⟨rfl, rfl, trivial⟩ ⟨ox, oy, (by first | exact ((((H.pull 0 rfl).pull 1 rfl).pull 2 rfl).pull 3 rfl) | exact ((((H.pull 0 rfl).pull 1 rfl).pull 3 rfl).pull 3 rfl) | exact ((((H.pull 0 rfl).pull 2 rfl).pull 2 rfl).pull 3 rfl) | exact ((((H.pull 0 rfl).pull 2 rfl).pull 3 rfl).pull 3 rfl) | exact ((((H.pull 0 rfl).pull 3 rfl).pull 2 rfl).pull 3 rfl) | exact ((((H.pull 0 rfl).pull 3 rfl).pull 3 rfl).pull 3 rfl) | exact ((((H.pull 1 rfl).pull 1 rfl).pull 2 rfl).pull 3 rfl) | exact ((((H.pull 1 rfl).pull 1 rfl).pull 3 rfl).pull 3 rfl) | exact ((((H.pull 1 rfl).pull 2 rfl).pull 2 rfl).pull 3 rfl) | exact ((((H.pull 1 rfl).pull 2 rfl).pull 3 rfl).pull 3 rfl) | exact ((((H.pull 1 rfl).pull 3 rfl).pull 2 rfl).pull 3 rfl) | exact ((((H.pull 1 rfl).pull 3 rfl).pull 3 rfl).pull 3 rfl) | exact ((((H.pull 2 rfl).pull 1 rfl).pull 2 rfl).pull 3 rfl) | exact ((((H.pull 2 rfl).pull 1 rfl).pull 3 rfl).pull 3 rfl) | exact ((((H.pull 2 rfl).pull 2 rfl).pull 2 rfl).pull 3 rfl) | exact ((((H.pull 2 rfl).pull 2 rfl).pull 3 rfl).pull 3 rfl) | exact ((((H.pull 2 rfl).pull 3 rfl).pull 2 rfl).pull 3 rfl) | exact ((((H.pull 2 rfl).pull 3 rfl).pull 3 rfl).pull 3 rfl) | exact ((((H.pull 3 rfl).pull 1 rfl).pull 2 rfl).pull 3 rfl) | exact ((((H.pull 3 rfl).pull 1 rfl).pull 3 rfl).pull 3 rfl) | exact ((((H.pull 3 rfl).pull 2 rfl).pull 2 rfl).pull 3 rfl) | exact ((((H.pull 3 rfl).pull 2 rfl).pull 3 rfl).pull 3 rfl) | exact ((((H.pull 3 rfl).pull 3 rfl).pull 2 rfl).pull 3 rfl) | exact ((((H.pull 3 rfl).pull 3 rfl).pull 3 rfl).pull 3 rfl))⟩
          · skip
            refine JHO.does (listed' := [true, false, true, false, true, true, false, false]) rfl rfl trivial (EX.alloc H zr25 rfl) ?_
            rintro _ w ⟨b8, rfl, H⟩
            have hS : Hp w0 w ([(b2, cel (tv kb nb pb mb cb) 25)] :: [(b1, cel (tv ka na pa ma ca) 25)] :: F) := by first | exact H | exact H.drop | exact H.drop.drop | exact H.drop.drop.drop | exact H.drop.drop.drop.drop | exact H.drop.drop.drop.drop.drop | exact H.drop.drop.drop.drop.drop.drop | exact H.drop.drop.drop.drop.drop.drop.drop | exact H.drop.drop.drop.drop.drop.drop.drop.drop
            refine ⟨hS, ?_⟩
            refine JH.all [1] (by kernel_rfl) (by decide) ?_
            refine JHO.does (listed' := [true, true, true, false, true, true, false, false]) rfl rfl trivial (EX.call rfl cl20 rfl ((by first | exact lcopied_b ta (by omega) _ _ _ _ H (Tr.Is.cons (Tr.Is.cons (ha))) | exact lcopied_b ta (by omega) _ _ _ _ H (Tr.Is.cons (Tr.Is.cons (Tr.Is.cons (ha)))) | exact lcopied_b ta (by omega) _ _ _ _ H (Tr.Is.cons (Tr.Is.cons (Tr.Is.cons (Tr.Is.cons (ha))))) | exact lcopied_b ta (by omega) _ _ _ _ H (Tr.Is.cons (Tr.Is.cons (Tr.Is.cons (Tr.Is.cons (Tr.Is.cons (ha))))))))) ?_
            rintro _ w ⟨vx, s1, rfl, ox, H⟩
            obtain ⟨kx, nx, px, mx, cx, rfl⟩ := ox.shape
            have hS : Hp w0 w ([(b2, cel (tv kb nb pb mb cb) 25)] :: [(b1, cel (tv ka na pa ma ca) 25)] :: F) := by first | exact H | exact H.drop | exact H.drop.drop | exact H.drop.drop.drop | exact H.drop.drop.drop.drop | exact H.drop.drop.drop.drop.drop | exact H.drop.drop.drop.drop.drop.drop | exact H.drop.drop.drop.drop.drop.drop.drop | exact H.drop.drop.drop.drop.drop.drop.drop.drop
            refine ⟨hS, ?_⟩
            refine JH.all [3] (by kernel_rfl) (by decide) ?_
            refine JHO.does (listed' := [true, true, true, true, true, true, false, false]) rfl rfl trivial (EX.call rfl cl20 rfl ((by first | exact lcopied_b tb (by omega) _ _ _ _ H (Tr.Is.cons (Tr.Is.cons (hb))) | exact lcopied_b tb (by omega) _ _ _ _ H (Tr.Is.cons (Tr.Is.cons (Tr.Is.cons (hb)))) | exact lcopied_b tb (by omega) _ _ _ _ H (Tr.Is.cons (Tr.Is.cons (Tr.Is.cons (Tr.Is.cons (hb))))) | exact lcopied_b tb (by omega) _ _ _ _ H (Tr.Is.cons (Tr.Is.cons (Tr.Is.cons (Tr.Is.cons (Tr.Is.cons (hb))))))))) ?_
            rintro _ w ⟨vy, s2, rfl, oy, H⟩
            obtain ⟨ky, ny, py, my, cy, rfl⟩ := oy.shape
            have hS : Hp w0 w ([(b2, cel (tv kb nb pb mb cb) 25)] :: [(b1, cel (tv ka na pa ma ca) 25)] :: F) := by first | exact H | exact H.drop | exact H.drop.drop | exact H.drop.drop.drop | exact H.drop.drop.drop.drop | exact H.drop.drop.drop.drop.drop | exact H.drop.drop.drop.drop.drop.drop | exact H.drop.drop.drop.drop.drop.drop.drop | exact H.drop.drop.drop.drop.drop.drop.drop.drop
            refine ⟨hS, ?_⟩
            refine JH.all [6] (by kernel_rfl) (by decide) ?_
            refine JHO.does (listed' := [true, true, true, true, true, true, true, false]) rfl rfl trivial (by first | exact EX.storeAgg H rfl rfl (i := 0) rfl (by simp [isCell]) (by simp) sz25 rfl rfl | exact EX.storeAgg H rfl rfl (i := 1) rfl (by simp [isCell]) (by simp) sz25 rfl rfl | exact EX.storeAgg H rfl rfl (i := 2) rfl (by simp [isCell]) (by simp) sz25 rfl rfl | exact EX.storeAgg H rfl rfl (i := 3) rfl (by simp [isCell]) (by simp) sz25 rfl rfl | exact EX.storeAgg H rfl rfl (i := 4) rfl (by simp [isCell]) (by simp) sz25 rfl rfl | exact EX.storeAgg H rfl rfl (i := 5) rfl (by simp [isCell]) (by simp) sz25 rfl rfl | exact EX.storeAgg H rfl rfl (i := 6) rfl (by simp [isCell]) (by simp) sz25 rfl rfl | exact EX.storeAgg H rfl rfl (i := 7) rfl (by simp [isCell]) (by simp) sz25 rfl rfl | exact EX.storeAgg H rfl rfl (i := 8) rfl (by simp [isCell]) (by simp) sz25 rfl rfl | exact EX.storeAgg H rfl rfl (i := 9) rfl (by simp [isCell]) (by simp) sz25 rfl rfl | exact EX.storeAgg H rfl rfl (i := 10) rfl (by simp [isCell]) (by simp) sz25 rfl rfl | exact EX.storeAgg H rfl rfl (i := 11) rfl (by simp [isCell]) (by simp) sz25 rfl rfl | exact EX.storeAgg H rfl rfl (i := 12) rfl (by simp [isCell]) (by simp) sz25 rfl rfl | exact EX.storeAgg H rfl rfl (i := 13) rfl (by simp [isCell]) (by simp) sz25 rfl rfl | exact EX.storeAgg H rfl rfl (i := 14) rfl (by simp [isCell]) (by simp) sz25 rfl rfl | exact EX.storeAgg H rfl rfl (i := 15) rfl (by simp [isCell]) (by simp) sz25 rfl rfl) ?_
            rintro _ w H
            have hS : Hp w0 w ([(b2, cel (tv kb nb pb mb cb) 25)] :: [(b1, cel (tv ka na pa ma ca) 25)] :: F) := by first | exact H | exact H.drop | exact H.drop.drop | exact H.drop.drop.drop | exact H.drop.drop.drop.drop | exact H.drop.drop.drop.drop.drop | exact H.drop.drop.drop.drop.drop.drop | exact H.drop.drop.drop.drop.drop.drop.drop | exact H.drop.drop.drop.drop.drop.drop.drop.drop
            refine ⟨hS, ?_⟩
            refine JH.all [7] (by kernel_rfl) (by decide) ?_
            refine JHO.does (listed' := [true, true, true, true, true, true, true, true]) rfl rfl trivial (by first | exact EX.storeAgg H rfl rfl (i := 0) rfl (by simp [isCell]) (by simp) sz25 rfl rfl | exact EX.storeAgg H rfl rfl (i := 1) rfl (by simp [isCell]) (by simp) sz25 rfl rfl | exact EX.storeAgg H rfl rfl (i := 2) rfl (by simp [isCell]) (by simp) sz25 rfl rfl | exact EX.storeAgg H rfl rfl (i := 3) rfl (by simp [isCell]) (by simp) sz25 rfl rfl | exact EX.storeAgg H rfl rfl (i := 4) rfl (by simp [isCell]) (by simp) sz25 rfl rfl | exact EX.storeAgg H rfl rfl (i := 5) rfl (by simp [isCell]) (by simp) sz25 rfl rfl | exact EX.storeAgg H rfl rfl (i := 6) rfl (by simp [isCell]) (by simp) sz25 rfl rfl | exact EX.storeAgg H rfl rfl (i := 7) rfl (by simp [isCell]) (by simp) sz25 rfl rfl | exact EX.storeAgg H rfl rfl (i := 8) rfl (by simp [isCell]) (by simp) sz25 rfl rfl | exact EX.storeAgg H rfl rfl (i := 9) rfl (by simp [isCell]) (by simp) sz25 rfl rfl | exact EX.storeAgg H rfl rfl (i := 10) rfl (by simp [isCell]) (by simp) sz25 rfl rfl | exact EX.storeAgg H rfl rfl (i := 11) rfl (by simp [isCell]) (by simp) sz25 rfl rfl | exact EX.storeAgg H rfl rfl (i := 12) rfl (by simp [isCell]) (by simp) sz25 rfl rfl | exact EX.storeAgg H rfl rfl (i := 13) rfl (by simp [isCell]) (by simp) sz25 rfl rfl | exact EX.storeAgg H rfl rfl (i := 14) rfl (by simp [isCell]) (by simp) sz25 rfl rfl | exact EX.storeAgg H rfl rfl (i := 15) rfl (by simp [isCell]) (by simp) sz25 rfl rfl) ?_
            rintro _ w H
            have hS : Hp w0 w ([(b2, cel (tv kb nb pb mb cb) 25)] :: [(b1, cel (tv ka na pa ma ca) 25)] :: F) := by first | exact H | exact H.drop | exact H.drop.drop | exact H.drop.drop.drop | exact H.drop.drop.drop.drop | exact H.drop.drop.drop.drop.drop | exact H.drop.drop.drop.drop.drop.drop | exact H.drop.drop.drop.drop.drop.drop.drop | exact H.drop.drop.drop.drop.drop.drop.drop.drop
            refine ⟨hS, ?_⟩
            refine JH.done (by kernel_rfl) ?_
            exact hk2 (b8, b9, tv kx nx px mx cx, tv ky ny py my cy, s1, s2) _ _ ⟨rfl, rfl, rfl, trivial⟩ ⟨rfl, rfl, trivial⟩ ⟨ox, oy, (by first | exact ((((H.pull 0 rfl).pull 1 rfl).pull 2 rfl).pull 3 rfl) | exact ((((H.pull 0 rfl).pull 1 rfl).pull 3 rfl).pull 3 rfl) | exact ((((H.pull 0 rfl).pull 2 rfl).pull 2 rfl).pull 3 rfl) | exact ((((H.pull 0 rfl).pull 2 rfl).pull 3 rfl).pull 3 rfl) | exact ((((H.pull 0 rfl).pull 3 rfl).pull 2 rfl).pull 3 rfl) | exact ((((H.pull 0 rfl).pull 3 rfl).pull 3 rfl).pull 3 rfl) | exact ((((H.pull 1 rfl).pull 1 rfl).pull 2 rfl).pull 3 rfl) | exact ((((H.pull 1 rfl).pull 1 rfl).pull 3 rfl).pull 3 rfl) | exact ((((H.pull 1 rfl).pull 2 rfl).pull 2 rfl).pull 3 rfl) | exact ((((H.pull 1 rfl).pull 2 rfl).pull 3 rfl).pull 3 rfl) | exact ((((H.pull 1 rfl).pull 3 rfl).pull 2 rfl).pull 3 rfl) | exact ((((H.pull 1 rfl).pull 3 rfl).pull 3 rfl).pull 3 rfl) | exact ((((H.pull 2 rfl).pull 1 rfl).pull 2 rfl).pull 3 rfl) | exact ((((H.pull 2 rfl).pull 1 rfl).pull 3 rfl).pull 3 rfl) | exact ((((H.pull 2 rfl).pull 2 rfl).pull 2 rfl).pull 3 rfl) | exact ((((H.pull 2 rfl).pull 2 rfl).pull 3 rfl).pull 3 rfl) | exact ((((H.pull 2 rfl).pull 3 rfl).pull 2 rfl).pull 3 rfl) | exact ((((H.pull 2 rfl).pull 3 rfl).pull 3 rfl).pull 3 rfl) | exact ((((H.pull 3 rfl).pull 1 rfl).pull 2 rfl).pull 3 rfl) | exact ((((H.pull 3 rfl).pull 1 rfl).pull 3 rfl).pull 3 rfl) | exact ((((H.pull 3 rfl).pull 2 rfl).pull 2 rfl).pull 3 rfl) | exact ((((H.pull 3 rfl).pull 2 rfl).pull 3 rfl).pull 3 rfl) | exact ((((H.pull 3 rfl).pull 3 rfl).pull 2 rfl).pull 3 rfl) | exact ((((H.pull 3 rfl).pull 3 rfl).pull 3 rfl).pull 3 rfl))⟩
      · skip
        clear H
        rintro ⟨b8, b9, vx, vy, s1, s2⟩ ρ w ⟨ox, oy, H⟩
        simp only at ox oy H
        obtain ⟨kx, nx, px, mx, cx, rfl⟩ := ox.shape
        obtain ⟨ky, ny, py, my, cy, rfl⟩ := oy.shape
        try dsimp only
        refine J.seq ?_
        refine J.region ?_
        refine JL.go trivial (RX.loadAgg H rfl (i := 0) (vs := tv kx nx px mx cx) rfl rfl ag25) ?_
        refine JL.go trivial (RX.loadAgg H rfl (i := 1) (vs := tv ky ny py my cy) rfl rfl ag25) ?_
        refine JL.does trivial (EX.call rfl cl21 rfl ((Times_b H (Tr.Is.cons (Tr.Is.cons (ox.is))) (Tr.Is.cons (Tr.Is.cons (Tr.Is.cons (oy.is)))) (by omega) (by omega)))) ?_
        rintro _ w ⟨vt, st, rfl, ot, H⟩
        obtain ⟨kt, nt, pt, mt, ct, rfl⟩ := ot.shape
        refine JL.does trivial (EX.alloc H zr25 rfl) ?_
        rintro _ w ⟨b10, rfl, H⟩
        refine JL.does trivial (EX.storeAgg H rfl rfl (i := 0) (vs := tv kt nt pt mt ct) (l' := tv kt nt pt mt ct) rfl tv_cell (by simp) sz25 rfl rfl) ?_
        rintro _ w H
        refine JL.nil ?_
        refine J.seq ?_
        refine J.region ?_
        refine JL.go trivial (RX.loadAgg H rfl (i := 2) (vs := tv kx nx px mx cx) rfl rfl ag25) ?_
        refine JL.go trivial (RX.loadAgg H rfl (i := 3) (vs := tv ky ny py my cy) rfl rfl ag25) ?_
        refine JL.does trivial (EX.call rfl cl21 rfl ((Times_b H (Tr.Is.cons (Tr.Is.cons (Tr.Is.cons (Tr.Is.cons (ox.is))))) (Tr.Is.cons (Tr.Is.cons (Tr.Is.cons (Tr.Is.cons (Tr.Is.cons (oy.is)))))) (by omega) (by omega)))) ?_
        rintro _ w ⟨vu, su, rfl, ou, H⟩
        obtain ⟨ku, nu, pu, mu, cu, rfl⟩ := ou.shape
        refine JL.does trivial (EX.alloc H zr25 rfl) ?_
        rintro _ w ⟨b11, rfl, H⟩
        refine JL.does trivial (EX.storeAgg H rfl rfl (i := 0) (vs := tv ku nu pu mu cu) (l' := tv ku nu pu mu cu) rfl tv_cell (by simp) sz25 rfl rfl) ?_
        rintro _ w H
        refine JL.nil ?_
        refine J.seq ?_
        refine J.region ?_
        refine JL.go trivial (RX.movev (v := Value.int _ _) rfl) ?_
        refine JL.go trivial (RX.loadAgg H rfl (i := 4) (vs := tv kx nx px mx cx) rfl rfl ag25) ?_
        refine JL.does trivial (EX.call rfl cl22 rfl ((Blue_b H (Tr.Is.cons (Tr.Is.cons (Tr.Is.cons (Tr.Is.cons (Tr.Is.cons (Tr.Is.cons (ox.is))))))) (by omega)))) ?_
        rintro _ w ⟨vv, sv, rfl, ov, H⟩
        obtain ⟨kv, nv, pv, mv, cv, rfl⟩ := ov.shape
        refine JL.does trivial (EX.alloc H zr25 rfl) ?_
        rintro _ w ⟨b12, rfl, H⟩
        refine JL.does trivial (EX.storeAgg H rfl rfl (i := 0) (vs := tv kv nv pv mv cv) (l' := tv kv nv pv mv cv) rfl tv_cell (by simp) sz25 rfl rfl) ?_
        rintro _ w H
        refine JL.nil ?_
        refine J.seq ?_
        refine J.region ?_
        refine JL.go trivial (RX.loadAgg H rfl (i := 6) (vs := tv kx nx px mx cx) rfl rfl ag25) ?_
        refine JL.does trivial (EX.call rfl cl17 rfl ((Check_b H (Tr.Is.cons (Tr.Is.cons (Tr.Is.cons (Tr.Is.cons (Tr.Is.cons (Tr.Is.cons (Tr.Is.cons (Tr.Is.cons (ox.is))))))))) (by omega) (hE.b.t8.cons.cons.cons.cons.cons.cons.cons.cons.cons.cons.cons.cons)))) ?_
        rintro _ w ⟨rfl, H⟩
        refine JL.nil ?_
        refine J.seq ?_
        refine J.region ?_
        refine JL.go trivial (RX.loadAgg H rfl (i := 6) (vs := tv kx nx px mx cx) rfl rfl ag25) ?_
        refine JL.does trivial (EX.call rfl cl16 rfl ((Text_b H (Tr.Is.cons (Tr.Is.cons (Tr.Is.cons (Tr.Is.cons (Tr.Is.cons (Tr.Is.cons (Tr.Is.cons (Tr.Is.cons (ox.is))))))))) (by omega) (hE.b.t8.cons.cons.cons.cons.cons.cons.cons.cons.cons.cons.cons.cons) (hg.cons.cons.cons.cons.cons.cons.cons.cons.cons.cons.cons.cons)))) ?_
        rintro _ w ⟨rfl, H⟩
        refine JL.go trivial (RX.movev (v := Value.tuple _) rfl) ?_
        refine JL.go trivial (RX.extract (v := .string ⟨(textO ta).toArray⟩) rfl rfl) ?_
        refine JL.go trivial (RX.extract (v := e8 E (goodB ta)) rfl rfl) ?_
        refine JL.go trivial (RX.assignv (v := Value.string _) rfl) ?_
        refine JL.go trivial (RX.assignv (v := e8 E (goodB ta)) rfl) ?_
        refine JL.nil ?_
        refine J.seq ?_
        refine J.region ?_
        refine JL.go trivial (RX.loadAgg H rfl (i := 6) (vs := tv kx nx px mx cx) rfl rfl ag25) ?_
        refine JL.does trivial (EX.call rfl cl23 rfl ((lawLeaves_b hpa (Tr.Is.cons (Tr.Is.cons (Tr.Is.cons (Tr.Is.cons (Tr.Is.cons (Tr.Is.cons (Tr.Is.cons (Tr.Is.cons (ox.is))))))))) H))) ?_
        rintro _ w ⟨pl, cl, ys, sl, ss, rfl, hol, hkol, H⟩
        refine JL.go trivial (RX.movev (v := Value.tuple _) rfl) ?_
        refine JL.go trivial (RX.extract (v := .slice pl ta.lvs.length cl) rfl rfl) ?_
        refine JL.go trivial (RX.extract (v := .bool true) rfl rfl) ?_
        refine JL.go trivial (RX.assignv (v := Value.slice _ _ _) rfl) ?_
        refine JL.go trivial (RX.assignv (v := Value.bool _) rfl) ?_
        refine JL.nil ?_
        refine J.seq ?_
        refine J.seq ?_
        refine J.region ?_
        refine JL.go trivial (RX.movev (v := Value.bool _) rfl) ?_
        refine JL.go trivial (RX.not rfl) ?_
        refine JL.go trivial (RX.movev (v := Value.bool _) rfl) ?_
        refine JL.go ⟨_, rfl, rfl⟩ (RX.loadAgg H rfl (i := 8) (vs := tv kx nx px mx cx) rfl rfl ag25) ?_
        refine JL.go ⟨_, rfl, rfl⟩ (RX.loadAgg H rfl (i := 13) (vs := tv ka na pa ma ca) rfl rfl ag25) ?_
        refine JL.does ⟨_, rfl, rfl⟩ (EX.call rfl cl12 rfl ((rSame_b ta hwa ta _ _ _ _ _ hwa H (Tr.Is.cons (Tr.Is.cons (Tr.Is.cons (Tr.Is.cons (Tr.Is.cons (Tr.Is.cons (Tr.Is.cons (Tr.Is.cons (Tr.Is.cons (Tr.Is.cons (ox.is))))))))))) (Tr.Is.cons (Tr.Is.cons (Tr.Is.cons (Tr.Is.cons (Tr.Is.cons (Tr.Is.cons (Tr.Is.cons (Tr.Is.cons (Tr.Is.cons (Tr.Is.cons (Tr.Is.cons (Tr.Is.cons (Tr.Is.cons (Tr.Is.cons (ha)))))))))))))))))) ?_
        rintro _ w ⟨rfl, H⟩
        rw [(Tr.same_eq ta ta).2 rfl]
        refine JL.go ⟨_, rfl, rfl⟩ (RX.not rfl) ?_
        refine JL.go trivial (RX.pick_f rfl rfl) ?_
        refine JL.go trivial (RX.movev (v := Value.bool _) rfl) ?_
        refine JL.go ⟨_, rfl, rfl⟩ (RX.loadAgg H rfl (i := 9) (vs := tv ky ny py my cy) rfl rfl ag25) ?_
        refine JL.go ⟨_, rfl, rfl⟩ (RX.loadAgg H rfl (i := 12) (vs := tv kb nb pb mb cb) rfl rfl ag25) ?_
        refine JL.does ⟨_, rfl, rfl⟩ (EX.call rfl cl12 rfl ((rSame_b tb hwb tb _ _ _ _ _ hwb H (Tr.Is.cons (Tr.Is.cons (Tr.Is.cons (Tr.Is.cons (Tr.Is.cons (Tr.Is.cons (Tr.Is.cons (Tr.Is.cons (Tr.Is.cons (Tr.Is.cons (Tr.Is.cons (oy.is)))))))))))) (Tr.Is.cons (Tr.Is.cons (Tr.Is.cons (Tr.Is.cons (Tr.Is.cons (Tr.Is.cons (Tr.Is.cons (Tr.Is.cons (Tr.Is.cons (Tr.Is.cons (Tr.Is.cons (Tr.Is.cons (Tr.Is.cons (Tr.Is.cons (hb)))))))))))))))))) ?_
        rintro _ w ⟨rfl, H⟩
        rw [(Tr.same_eq tb tb).2 rfl]
        refine JL.go ⟨_, rfl, rfl⟩ (RX.not rfl) ?_
        refine JL.go trivial (RX.pick_f rfl rfl) ?_
        refine JL.nil ?_
        refine J.cond_f rfl rfl ?_
        refine J.skip ?_
        refine J.seq ?_
        replace H := H.pull 10 rfl
        refine J.region ?_
        refine JL.go trivial (RX.loadAgg H rfl (i := 9) (vs := tv kx nx px mx cx) rfl rfl ag25) ?_
        refine JL.does trivial (EX.call rfl cl24 rfl ((spoil_b ta (by omega) _ _ _ _ _ ox H))) ?_
        rintro _ w ⟨rfl, g1, H⟩
        refine JL.nil ?_
        replace H := H.drop
        refine J.seq ?_
        replace H := H.pull 10 rfl
        refine J.region ?_
        refine JL.go trivial (RX.loadAgg H rfl (i := 10) (vs := tv ky ny py my cy) rfl rfl ag25) ?_
        refine JL.does trivial (EX.call rfl cl24 rfl ((spoil_b tb (by omega) _ _ _ _ _ oy H))) ?_
        rintro _ w ⟨rfl, g1, H⟩
        refine JL.nil ?_
        replace H := H.drop
        refine J.seq ?_
        have hp3 : (Tr.node 3 0 [ta, tb]).parts ≤ 4194304 := by rw [Tr.parts, partsL, partsL, partsL]; omega
        have hp4 : (Tr.node 4 nn [ta]).parts ≤ 4194304 := by rw [Tr.parts, partsL, partsL]; omega
        have hw3 := wide_sm hp3
        have hw4 := wide_sm hp4
        replace H := H.pull 7 rfl
        refine J.region ?_
        refine JL.go trivial (RX.loadAgg H rfl (i := 7) (vs := tv kt nt pt mt ct) rfl rfl ag25) ?_
        refine JL.does trivial (EX.call rfl cl24 rfl ((spoil_b _ hp3 _ _ _ _ _ ot H))) ?_
        rintro _ w ⟨rfl, g1, H⟩
        refine JL.nil ?_
        replace H := H.drop
        refine J.seq ?_
        refine J.seq ?_
        refine J.region ?_
        refine JL.go trivial (RX.loadAgg H rfl (i := 4) (vs := tv ku nu pu mu cu) rfl rfl ag25) ?_
        refine JL.go trivial (RX.loadAgg H rfl (i := 10) (vs := tv ka na pa ma ca) rfl rfl ag25) ?_
        refine JL.go trivial (RX.loadAgg H rfl (i := 9) (vs := tv kb nb pb mb cb) rfl rfl ag25) ?_
        refine JL.does trivial (EX.buildSlice (pv := [(0, .agg (tv ka na pa ma ca).toArray), (1, .agg (tv kb nb pb mb cb).toArray)]) (l := tv ka na pa ma ca ++ tv kb nb pb mb cb) (e := 25) H rfl (by kernel_rfl)) ?_
        rintro _ w ⟨bq, rfl, H⟩
        refine JL.go trivial (RX.build (pv := [(0, .int .i64 3), (2, .slice (some ⟨bq, 0, none⟩) 2 2)]) (res := tv 3 0 (some ⟨bq, 0, none⟩) 2 2) rfl (by kernel_rfl)) ?_
        refine JL.does trivial (EX.call rfl cl12 rfl ((rSame_b (.node 3 0 [ta, tb]) hw3 (.node 3 0 [ta, tb]) _ _ _ _ _ hw3 H (Tr.Is.cons (Tr.Is.cons (Tr.Is.cons (Tr.Is.cons (Tr.Is.cons (Tr.Is.cons (ou.is))))))) (is_two (Tr.Is.cons (Tr.Is.cons (Tr.Is.cons (Tr.Is.cons (Tr.Is.cons (Tr.Is.cons (Tr.Is.cons (Tr.Is.cons (Tr.Is.cons (Tr.Is.cons (Tr.Is.cons (ha)))))))))))) (Tr.Is.cons (Tr.Is.cons (Tr.Is.cons (Tr.Is.cons (Tr.Is.cons (Tr.Is.cons (Tr.Is.cons (Tr.Is.cons (Tr.Is.cons (Tr.Is.cons (Tr.Is.cons (hb)))))))))))) rfl)))) ?_
        rintro _ w ⟨rfl, H⟩
        rw [(Tr.same_eq (Tr.node 3 0 [ta, tb]) _).2 rfl]
        refine JL.go trivial (RX.not rfl) ?_
        refine JL.go trivial (RX.movev (v := Value.bool _) rfl) ?_
        refine JL.go ⟨_, rfl, rfl⟩ (RX.loadAgg H rfl (i := 3) (vs := tv kv nv pv mv cv) rfl rfl ag25) ?_
        refine JL.go ⟨_, rfl, rfl⟩ (RX.movev (v := Value.int _ _) rfl) ?_
        refine JL.go ⟨_, rfl, rfl⟩ (RX.loadAgg H rfl (i := 11) (vs := tv ka na pa ma ca) rfl rfl ag25) ?_
        refine JL.does ⟨_, rfl, rfl⟩ (EX.buildSlice (pv := [(0, .agg (tv ka na pa ma ca).toArray)]) (l := tv ka na pa ma ca) (e := 25) H rfl (by kernel_rfl)) ?_
        rintro _ w ⟨bq2, rfl, H⟩
        refine JL.go ⟨_, rfl, rfl⟩ (RX.build (pv := [(0, .int .i64 4), (1, .int .i64 nn), (2, .slice (some ⟨bq2, 0, none⟩) 1 1)]) (res := tv 4 nn (some ⟨bq2, 0, none⟩) 1 1) rfl (by kernel_rfl)) ?_
        refine JL.does ⟨_, rfl, rfl⟩ (EX.call rfl cl12 rfl ((rSame_b (.node 4 nn [ta]) hw4 (.node 4 nn [ta]) _ _ _ _ _ hw4 H (Tr.Is.cons (Tr.Is.cons (Tr.Is.cons (Tr.Is.cons (Tr.Is.cons (ov.is)))))) (is_one (Tr.Is.cons (Tr.Is.cons (Tr.Is.cons (Tr.Is.cons (Tr.Is.cons (Tr.Is.cons (Tr.Is.cons (Tr.Is.cons (Tr.Is.cons (Tr.Is.cons (Tr.Is.cons (Tr.Is.cons (ha))))))))))))) rfl)))) ?_
        rintro _ w ⟨rfl, H⟩
        rw [(Tr.same_eq (Tr.node 4 nn [ta]) _).2 rfl]
        refine JL.go ⟨_, rfl, rfl⟩ (RX.not rfl) ?_
        refine JL.go trivial (RX.pick_f rfl rfl) ?_
        refine JL.nil ?_
        replace H := H.drop.drop
        refine J.cond_f rfl rfl ?_
        refine J.skip ?_
        refine J.seq ?_
        refine J.region ?_
        refine JL.go trivial (RX.loadAgg H rfl (i := 10) (vs := tv ka na pa ma ca) rfl rfl ag25) ?_
        refine JL.does trivial (EX.call rfl cl25 rfl ((rlv_b ta (by omega) _ _ F _ _ (sub_cons (sub_cons (sub_cons (sub_cons (sub_cons (sub_cons (sub_cons (sub_cons (sub_cons (sub_cons (sub_cons (fun e he => he)))))))))))) H ha))) ?_
        rintro _ w ⟨pr, cr, zs, sr, rfl, hor, hkor, H⟩
        refine JL.go trivial (RX.assignv (v := Value.slice _ _ _) rfl) ?_
        refine JL.nil ?_
        refine J.seq ?_
        refine J.seq ?_
        refine J.region ?_
        refine JL.go trivial (RX.movev (v := Value.slice _ _ _) rfl) ?_
        refine JL.go trivial (RX.len_slice rfl (by rw [sl23]; rfl) rfl) ?_
        refine JL.go trivial (RX.movev (v := Value.slice _ _ _) rfl) ?_
        refine JL.go trivial (RX.len_slice rfl (by rw [sl23]; rfl) rfl) ?_
        refine JL.go trivial (RX.ne rfl rfl) ?_
        refine JL.nil ?_
        refine J.cond_f rfl (decide_eq_false (fun h => h rfl)) ?_
        refine J.skip ?_
        refine J.seq ?_
        refine J.seq ?_
        refine J.region ?_
        refine JL.go trivial (RX.movev (v := Value.slice _ _ _) rfl) ?_
        refine JL.go trivial (RX.len_slice rfl (by rw [sl23]; rfl) rfl) ?_
        refine JL.go trivial (RX.move) ?_
        refine JL.nil ?_
        refine J.block ?_
        refine J.loop (ι := Nat) (S := fun i => [(106, .int .i64 (i : Nat))]) (Φ := fun i w => i ≤ ta.lvs.length ∧ Hp w0 w (sr :: sl :: ss :: [(b12, cel (tv kv nv pv mv cv) 25)] :: sv :: [(b11, cel (tv ku nu pu mu cu) 25)] :: su :: [(b10, cel (tv kt nt pt mt ct) 25)] :: [(b8, cel (tv kx nx px mx cx) 25)] :: [(b9, cel (tv ky ny py my cy) 25)] :: [(b2, cel (tv kb nb pb mb cb) 25)] :: [(b1, cel (tv ka na pa ma ca) 25)] :: F)) (μ := fun i => ta.lvs.length - i) (C := [(3, _), (13, _), (14, _), (15, _), (16, _), (105, _)]) 0 ⟨rfl, rfl, rfl, rfl, rfl, rfl, trivial⟩ ⟨rfl, trivial⟩ ?_ ?_
        · exact ⟨by omega, H⟩
        have hll := lvs_len _ ta (Nat.le_refl _)
        clear H
        rintro i ρ w ⟨hi, H⟩ IH
        refine J.seq ?_
        refine J.region ?_
        refine JL.go trivial (RX.lt rfl rfl) ?_
        refine JL.nil ?_
        refine J.seq ?_
        refine J.cond_d rfl (fun hlt => ?_) (fun hlt => ?_)
        · skip
          obtain ⟨t1, ht1⟩ : ∃ t1, ta.lvs[i]? = some t1 := ⟨_, List.getElem?_eq_getElem (by omega)⟩
          obtain ⟨a1, ha1, hi1⟩ := hkol.kids.get ht1
          obtain ⟨a2, ha2, hi2⟩ := hkor.get ht1
          have hx1 := hol.1
          have hx2 := hor.1
          have hp1 := lvs_parts _ ta (Nat.le_refl _) t1 (List.mem_of_getElem? ht1)
          have hw1 := wide_small _ t1 (Nat.le_refl _) (by omega)
          obtain ⟨pb9, po, rfl⟩ := spot_some (hol.slAt (L := [])) (by omega)
          obtain ⟨pb2, po2, rfl⟩ := spot_some (hor.slAt (L := [])) (by omega)
          have hi3 : t1.Is (ss :: [(b12, cel (tv kv nv pv mv cv) 25)] :: sv :: [(b11, cel (tv ku nu pu mu cu) 25)] :: su :: [(b10, cel (tv kt nt pt mt ct) 25)] :: [(b8, cel (tv kx nx px mx cx) 25)] :: [(b9, cel (tv ky ny py my cy) 25)] :: [(b2, cel (tv kb nb pb mb cb) 25)] :: [(b1, cel (tv ka na pa ma ca) 25)] :: F) a1 := hi1.mono (fun e he => by simp only [List.flatten_cons, List.flatten_nil, List.append_nil] at he; simp only [List.flatten_cons, List.mem_append]; exact .inl he)
          refine J.skip ?_
          refine J.seq ?_
          refine J.block ?_
          refine J.seq ?_
          refine J.region ?_
          refine JL.go trivial (RX.movev (v := Value.int _ _) rfl) ?_
          refine JL.go trivial (RX.assignv (v := Value.int _ _) rfl) ?_
          refine JL.nil ?_
          refine J.seq ?_
          refine J.quietH H hmix (by kernel_rfl) ?_
          refine JQ.go trivial (fun w H => RX.movev (v := Value.slice _ _ _) rfl) ?_
          refine JQ.go trivial (fun w H => RX.movev (v := Value.int _ _) rfl) ?_
          refine JQ.go trivial (fun w H => RX.indexAddr rfl rfl sl23 (by omega) (by omega) (o' := po + i * 3) (by omega)) ?_
          refine JQ.go trivial (fun w H => RX.loadAggS H hol.slAt.cons rfl (j := i * 3) (by omega) (vs := a1) ha1 ag25) ?_
          refine JQ.go trivial (fun w H => RX.movev (v := Value.slice _ _ _) rfl) ?_
          refine JQ.go trivial (fun w H => RX.movev (v := Value.int _ _) rfl) ?_
          refine JQ.go trivial (fun w H => RX.indexAddr rfl rfl sl23 (by omega) (by omega) (o' := po2 + i * 3) (by omega)) ?_
          refine JQ.go trivial (fun w H => RX.loadAggS H hor.slAt rfl (j := i * 3) (by omega) (vs := a2) ha2 ag25) ?_
          refine JQ.call trivial (fun w H => run_callq rfl cl12 rfl) (fun w H => (rSame_b t1 hw1 t1 _ _ _ _ _ hw1 H (Tr.Is.cons (Tr.Is.cons hi3)) (Tr.Is.cons (Tr.Is.cons (Tr.Is.cons (Tr.Is.cons (Tr.Is.cons (Tr.Is.cons (Tr.Is.cons (Tr.Is.cons (Tr.Is.cons (Tr.Is.cons (Tr.Is.cons (Tr.Is.cons (hi2))))))))))))))) ?_
          refine JQ.go trivial (fun w H => RX.not rfl) ?_
          refine JQ.nil fun w H => ?_
          refine J.cond_f rfl (by rw [(Tr.same_eq t1 t1).2 rfl]; rfl) ?_
          refine J.skip ?_
          refine J.inBlock ?_
          refine J.region ?_
          refine JL.go trivial (RX.add rfl rfl (w_i64 (r := ((i + 1 : Nat) : Int)) (by omega) (by omega) (by omega))) ?_
          refine JL.go trivial (RX.movev (v := Value.int _ _) rfl) ?_
          refine JL.nil ?_
          exact IH (i + 1) _ _ (by omega) ⟨rfl, rfl, rfl, rfl, rfl, rfl, trivial⟩ ⟨rfl, trivial⟩ ⟨by omega, H⟩
        · skip
          refine J.exit rfl ?_
          refine J.seq ?_
          refine J.seq ?_
          refine J.region ?_
          refine JL.go trivial (RX.movev (v := e8 E (goodB ta)) rfl) ?_
          refine JL.go trivial (RX.ifnil_neq (v := e8 E (goodB ta)) rfl rfl (e8_ie hE.b.t8 _).1 if27) ?_
          refine JL.nil ?_
          refine J.cond rfl (fun hne => ?_) (fun hne => ?_)
          · skip
            refine J.seq ?_
            refine J.region ?_
            refine JL.go trivial (RX.assign) ?_
            refine JL.nil ?_
            refine J.ret1 (v := Value.bool _) Tryd.func6 rfl rfl ?_
            exact ⟨_, rfl, rfl, H.drop.drop.drop.drop.drop.drop.drop.drop.drop.drop.drop.drop⟩
          · skip
            have hgd : goodB ta = true := by simpa [(e8_ie hE.b.t8 (goodB ta)).2] using hne
            have hlo := goodB_yes hgd
            have hto : textO ta = textT ta := by unfold textO; rw [hgd]; rfl
            have htl := text_len _ ta (Nat.le_refl _) (by rw [← (good_len hlo).1]; exact hlo)
            have hps := parse_there hlo
            rw [← hto] at hps htl
            refine J.skip ?_
            refine J.seq ?_
            refine J.region ?_
            refine JL.go trivial (RX.movev (v := Value.string _) rfl) ?_
            refine JL.does trivial (EX.call rfl cl10 rfl ((Parse_b H (hE.b.cons.cons.cons.cons.cons.cons.cons.cons.cons.cons.cons.cons) (s := textO ta) (by omega)))) ?_
            rintro _ w ⟨sp, hpr, H⟩
            rw [hps] at hpr
            obtain ⟨k5, n5, p5, m5, c5, rfl, o5⟩ := hpr.ok
            refine JL.go trivial (RX.movev (v := Value.tuple _) rfl) ?_
            refine JL.go trivial (RX.extract (v := .agg (tv k5 n5 p5 m5 c5).toArray) rfl rfl) ?_
            refine JL.go trivial (RX.extract (v := .int .i64 0) rfl rfl) ?_
            refine JL.go trivial (RX.extract (v := Value.nilIface) rfl rfl) ?_
            refine JL.does trivial (EX.alloc H zr25 rfl) ?_
            rintro _ w ⟨b18, rfl, H⟩
            refine JL.does trivial (EX.storeAgg H rfl rfl (i := 0) (vs := tv k5 n5 p5 m5 c5) (l' := tv k5 n5 p5 m5 c5) rfl tv_cell (by simp) sz25 rfl rfl) ?_
            rintro _ w H
            refine JL.go trivial (RX.assignv (v := Value.int _ _) rfl) ?_
            refine JL.go trivial (RX.assignv (v := Value.nilIface) rfl) ?_
            refine JL.nil ?_
            refine J.seq ?_
            refine J.region ?_
            refine JL.go trivial (RX.movev (v := Value.string _) rfl) ?_
            refine JL.does trivial (EX.call rfl cl10 rfl ((Parse_b H (hE.b.cons.cons.cons.cons.cons.cons.cons.cons.cons.cons.cons.cons.cons.cons) (s := textO ta) (by omega)))) ?_
            rintro _ w ⟨sq, hpr, H⟩
            rw [hps] at hpr
            obtain ⟨k6, n6, p6, m6, c6, rfl, o6⟩ := hpr.ok
            refine JL.go trivial (RX.movev (v := Value.tuple _) rfl) ?_
            refine JL.go trivial (RX.extract (v := .agg (tv k6 n6 p6 m6 c6).toArray) rfl rfl) ?_
            refine JL.go trivial (RX.extract (v := .int .i64 0) rfl rfl) ?_
            refine JL.go trivial (RX.extract (v := Value.nilIface) rfl rfl) ?_
            refine JL.does trivial (EX.alloc H zr25 rfl) ?_
            rintro _ w ⟨b21, rfl, H⟩
            refine JL.does trivial (EX.storeAgg H rfl rfl (i := 0) (vs := tv k6 n6 p6 m6 c6) (l' := tv k6 n6 p6 m6 c6) rfl tv_cell (by simp) sz25 rfl rfl) ?_
            rintro _ w H
            refine JL.go trivial (RX.assignv (v := Value.int _ _) rfl) ?_
            refine JL.go trivial (RX.assignv (v := Value.nilIface) rfl) ?_
            refine JL.nil ?_
            refine J.seq ?_
            replace H := H.pull 3 rfl
            refine J.region ?_
            refine JL.go trivial (RX.loadAgg H rfl (i := 3) (vs := tv k5 n5 p5 m5 c5) rfl rfl ag25) ?_
            refine JL.does trivial (EX.call rfl cl24 rfl ((spoil_b ta (by omega) _ _ _ _ _ o5 H))) ?_
            rintro _ w ⟨rfl, g1, H⟩
            refine JL.nil ?_
            replace H := H.drop
            refine J.seq ?_
            refine J.region ?_
            refine JL.go trivial (RX.movev (v := Value.nilIface) rfl) ?_
            refine JL.go trivial (RX.ifnil_eql (v := Value.nilIface) rfl rfl rfl if27) ?_
            refine JL.go trivial (RX.movev (v := Value.bool _) rfl) ?_
            refine JL.go ⟨_, rfl, rfl⟩ (RX.movev (v := Value.nilIface) rfl) ?_
            refine JL.go ⟨_, rfl, rfl⟩ (RX.ifnil_eql (v := Value.nilIface) rfl rfl rfl if27) ?_
            refine JL.go trivial (RX.pick_t rfl rfl) ?_
            refine JL.go trivial (RX.movev (v := Value.bool _) rfl) ?_
            refine JL.go ⟨_, rfl, rfl⟩ (RX.loadAgg H rfl (i := 0) (vs := tv k6 n6 p6 m6 c6) rfl rfl ag25) ?_
            refine JL.go ⟨_, rfl, rfl⟩ (RX.loadAgg H rfl (i := 14) (vs := tv ka na pa ma ca) rfl rfl ag25) ?_
            refine JL.does ⟨_, rfl, rfl⟩ (EX.call rfl cl12 rfl ((rSame_b ta hwa ta _ _ _ _ _ hwa H (Tr.Is.cons (o6.is)) (Tr.Is.cons (Tr.Is.cons (Tr.Is.cons (Tr.Is.cons (Tr.Is.cons (Tr.Is.cons (Tr.Is.cons (Tr.Is.cons (Tr.Is.cons (Tr.Is.cons (Tr.Is.cons (Tr.Is.cons (Tr.Is.cons (Tr.Is.cons (Tr.Is.cons (ha))))))))))))))))))) ?_
            rintro _ w ⟨rfl, H⟩
            rw [(Tr.same_eq ta ta).2 rfl]
            refine JL.go trivial (RX.pick_t rfl rfl) ?_
            refine JL.go trivial (RX.assignv (v := Value.bool _) rfl) ?_
            refine JL.nil ?_
            refine J.ret1 (v := Value.bool _) Tryd.func6 rfl rfl ?_
            exact ⟨_, rfl, rfl, H.drop.drop.drop.drop.drop.drop.drop.drop.drop.drop.drop.drop.drop.drop.drop⟩
end Go.Proofs.YtinbeaaloailnaaDoor
