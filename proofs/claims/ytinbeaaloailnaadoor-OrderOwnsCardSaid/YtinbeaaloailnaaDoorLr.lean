/- The reference's depth and leaves. -/
import Derived.Test.YtinbeaaloailnaaDoorDt
namespace Go.Proofs.YtinbeaaloailnaaDoor
open Go Go.Eng
set_option maxRecDepth 100000
set_option linter.unusedVariables false
set_option linter.unusedSimpArgs false
theorem cl25 : callable Tryd.prog 25 = true := by kernel_rfl
theorem cl29 : callable Tryd.prog 29 = true := by kernel_rfl

theorem KidsIs.app {L : List Seg} : ∀ {a b : List Tr} {ys zs : List Value}, KidsIs L a ys → KidsIs L b zs → KidsIs L (a ++ b) (ys ++ zs)
  | [], b, ys, zs, h, h2 => by
    rw [KidsIs] at h
    rw [h]; exact h2
  | t :: a, b, ys, zs, h, h2 => by
    rw [KidsIs] at h
    obtain ⟨u, v, rfl, h3, h4⟩ := h
    rw [List.cons_append, KidsIs]
    exact ⟨u, v ++ zs, by rw [List.append_assoc], h3, h4.app h2⟩
theorem KidsIs.one {L : List Seg} {t : Tr} {vs : List Value} (h : t.Is L vs) : KidsIs L [t] vs := by
  rw [KidsIs]
  exact ⟨vs, [], by simp, h, by rw [KidsIs]⟩
def RDepC (t : Tr) : Prop := t.parts ≤ 4194304 → ∀ (w0 w : World) (F : List Seg) (vs : List Value), Hp w0 w F → t.Is F vs → Ret Tryd.prog 29 [.agg vs.toArray] w fun v w' => v = .int .i64 (t.depth : Nat) ∧ Hp w0 w' F
def RLvC (t : Tr) : Prop := t.parts ≤ 4194304 → ∀ (w0 w : World) (X F : List Seg) (vs : List Value), (∀ e, e ∈ X.flatten → e ∈ F.flatten) → Hp w0 w F → t.Is X vs → Ret Tryd.prog 25 [.agg vs.toArray] w fun v w' => ∃ p c ys sl, v = .slice p t.lvs.length c ∧ OwnSl 25 3 p t.lvs.length c ys sl ∧ KidsIs X t.lvs ys ∧ Hp w0 w' (sl :: F)
theorem sub_cons {X F : List Seg} {s : Seg} (h : ∀ e, e ∈ X.flatten → e ∈ F.flatten) : ∀ e, e ∈ X.flatten → e ∈ (s :: F).flatten := fun e he => by
  simp only [List.flatten_cons, List.mem_append]; exact .inr (h e he)

theorem rdepth_step {k n : Int} {ks : List Tr} (ih : ∀ t, t.parts < (Tr.node k n ks).parts → RDepC t) (hp : (Tr.node k n ks).parts ≤ 4194304) {w0 w : World} {F : List Seg} {p : Option Addr} {c : Nat} {xs : List Value} (H : Hp w0 w F) (hs : SlAt F p xs) (hk : KidsIs F ks xs) : Ret Tryd.prog 29 [.agg (tv k n p ks.length c).toArray] w fun v w' => v = .int .i64 ((Tr.node k n ks).depth : Nat) ∧ Hp w0 w' F := by
  refine Calls.of_J (n := 20) Tryd.func29 rfl rfl rfl ?_
  refine J.seq ?_
  have hkl := partsL_len ks
  have hpp : (Tr.node k n ks).parts = 1 + partsL ks := by rw [Tr.parts]
  have hdp := depth_parts (.node k n ks)
  have hdd : (Tr.node k n ks).depth = depthL ks + 1 := by rw [Tr.depth]
  refine J.region ?_
  refine JL.does trivial (EX.box (v := Value.agg _) H rfl rfl) ?_
  rintro _ w ⟨b1, rfl, H⟩
  refine JL.go trivial (RX.assign) ?_
  refine JL.nil ?_
  refine J.seq ?_
  refine J.region ?_
  refine JL.go trivial (RX.assign) ?_
  refine JL.nil ?_
  refine J.seq ?_
  refine J.seq ?_
  refine J.region ?_
  refine JL.go trivial (RX.fieldAddr rfl fo25_2 rfl) ?_
  refine JL.go trivial (RX.load H rfl (i := 0) (v := .slice p ks.length c) rfl rfl one23) ?_
  refine JL.go trivial (RX.len_slice rfl (by rw [sl23]; rfl) rfl) ?_
  refine JL.go trivial (RX.move) ?_
  refine JL.nil ?_
  refine J.block ?_
  refine J.loop (ι := Nat) (S := fun i => [(3, .int .i64 (depthT ks i : Nat)), (9, .int .i64 (i : Nat))]) (Φ := fun i w => i ≤ ks.length ∧ Hp w0 w ([(b1, cel (tv k n p ks.length c) 25)] :: F)) (μ := fun i => ks.length - i) (C := [(7, _), (8, _)]) 0 ⟨rfl, rfl, trivial⟩ ⟨rfl, rfl, trivial⟩ ?_ ?_
  · exact ⟨by omega, H⟩
  clear H
  rintro i ρ w ⟨hi, H⟩ IH
  refine J.seq ?_
  refine J.region ?_
  refine JL.go trivial (RX.lt rfl rfl) ?_
  refine JL.nil ?_
  refine J.seq ?_
  refine J.cond_d rfl (fun hlt => ?_) (fun hlt => ?_)
  · skip
    obtain ⟨t1, ht1⟩ : ∃ t1, ks[i]? = some t1 := ⟨_, List.getElem?_eq_getElem (by omega)⟩
    obtain ⟨a1, ha1, hi1⟩ := hk.get ht1
    obtain ⟨k1, n1, p1, m1, c1, rfl⟩ := hi1.shape
    have hxl := hk.len
    obtain ⟨pb, po, rfl⟩ := spot_some hs (by omega)
    have hlp := kid_lt (k := k) (n := n) ht1
    have hds := depthT_succ ht1
    refine J.skip ?_
    refine J.seq ?_
    refine J.block ?_
    refine J.seq ?_
    refine J.region ?_
    refine JL.go trivial (RX.indexAddr rfl rfl sl23 (by omega) (by omega) (o' := po + i * 3) (by omega)) ?_
    refine JL.go trivial (RX.loadAggS H hs.cons rfl (j := i * 3) (by omega) (vs := tv k1 n1 p1 m1 c1) ha1 ag25) ?_
    refine JL.does trivial (EX.alloc H zr25 rfl) ?_
    rintro _ w ⟨b5, rfl, H⟩
    refine JL.does trivial (EX.storeAgg H rfl rfl (i := 0) (vs := tv k1 n1 p1 m1 c1) (l' := tv k1 n1 p1 m1 c1) rfl tv_cell (by simp) sz25 rfl rfl) ?_
    rintro _ w H
    refine JL.nil ?_
    refine J.region ?_
    refine JL.go trivial (RX.movev (v := Value.int _ _) rfl) ?_
    refine JL.go trivial (RX.loadAgg H rfl (i := 0) (vs := tv k1 n1 p1 m1 c1) rfl rfl ag25) ?_
    refine JL.does trivial (EX.call rfl cl29 rfl ((ih t1 hlp (by omega) _ _ _ _ H hi1.cons.cons))) ?_
    rintro _ w ⟨rfl, H⟩
    refine JL.go trivial (RX.max_ (r := ((depthT ks (i + 1) : Nat) : Int)) rfl rfl (by omega)) ?_
    refine JL.go trivial (RX.assignv (v := Value.int _ _) rfl) ?_
    refine JL.nil ?_
    refine J.inBlock ?_
    refine J.region ?_
    refine JL.go trivial (RX.add rfl rfl (w_i64 (r := ((i + 1 : Nat) : Int)) (by omega) (by omega) (by omega))) ?_
    refine JL.go trivial (RX.movev (v := Value.int _ _) rfl) ?_
    refine JL.nil ?_
    exact IH (i + 1) _ _ (by omega) ⟨rfl, rfl, trivial⟩ ⟨rfl, rfl, trivial⟩ ⟨by omega, H.drop⟩
  · skip
    have hil : i = ks.length := by omega
    subst hil
    have hfl := depthT_full ks
    refine J.exit rfl ?_
    refine J.seq ?_
    refine J.region ?_
    refine JL.go trivial (RX.movev (v := Value.int _ _) rfl) ?_
    refine JL.go trivial (RX.add rfl rfl (w_i64 (r := (((Tr.node k n ks).depth : Nat) : Int)) (by omega) (by omega) (by omega))) ?_
    refine JL.go trivial (RX.assignv (v := Value.int _ _) rfl) ?_
    refine JL.nil ?_
    refine J.ret1 (v := Value.int _ _) Tryd.func29 rfl rfl ?_
    exact ⟨_, rfl, rfl, H.drop⟩
theorem rdepth_b : ∀ t, RDepC t := tr_ind fun t ih hp w0 w F vs H ht => by
  obtain ⟨k, n, ks⟩ := t
  rw [Tr.Is] at ht
  obtain ⟨p, c, xs, rfl, hs, hk⟩ := ht
  exact rdepth_step ih hp H hs hk
theorem rlv_step {k n : Int} {ks : List Tr} (ih : ∀ t, t.parts < (Tr.node k n ks).parts → RLvC t) (hp : (Tr.node k n ks).parts ≤ 4194304) {w0 w : World} {X F : List Seg} {p : Option Addr} {c : Nat} {xs : List Value} (hX : ∀ e, e ∈ X.flatten → e ∈ F.flatten) (H : Hp w0 w F) (ht : (Tr.node k n ks).Is X (tv k n p ks.length c)) (hs : SlAt X p xs) (hk : KidsIs X ks xs) : Ret Tryd.prog 25 [.agg (tv k n p ks.length c).toArray] w fun v w' => ∃ p' c' ys sl, v = .slice p' (Tr.node k n ks).lvs.length c' ∧ OwnSl 25 3 p' (Tr.node k n ks).lvs.length c' ys sl ∧ KidsIs X (Tr.node k n ks).lvs ys ∧ Hp w0 w' (sl :: F) := by
  refine Calls.of_J (n := 26) Tryd.func25 rfl rfl rfl ?_
  refine J.seq ?_
  have hkl := partsL_len ks
  have hpp : (Tr.node k n ks).parts = 1 + partsL ks := by rw [Tr.parts]
  have hlv := lvs_len _ (Tr.node k n ks) (Nat.le_refl _)
  refine J.region ?_
  refine JL.does trivial (EX.box (v := Value.agg _) H rfl rfl) ?_
  rintro _ w ⟨b1, rfl, H⟩
  refine JL.go trivial (RX.assignv (v := Value.slice _ _ _) rfl) ?_
  refine JL.nil ?_
  refine J.seq ?_
  refine J.seq ?_
  refine J.region ?_
  refine JL.go trivial (RX.fieldAddr rfl fo25_2 rfl) ?_
  refine JL.go trivial (RX.load H rfl (i := 0) (v := .slice p ks.length c) rfl rfl one23) ?_
  refine JL.go trivial (RX.len_slice rfl (by rw [sl23]; rfl) rfl) ?_
  refine JL.go trivial (RX.eq rfl rfl) ?_
  refine JL.nil ?_
  refine J.cond_d rfl (fun h0 => ?_) (fun h0 => ?_)
  · skip
    rw [lvs_leaf (by omega)]
    refine J.seq ?_
    refine J.region ?_
    refine JL.go trivial (RX.loadAgg H rfl (i := 0) (vs := tv k n p ks.length c) rfl rfl ag25) ?_
    refine JL.does trivial (EX.buildSlice (pv := [(0, .agg (tv k n p ks.length c).toArray)]) (l := tv k n p ks.length c) (e := 25) H rfl (by kernel_rfl)) ?_
    rintro _ w ⟨bs, rfl, H⟩
    refine JL.go trivial (RX.assignv (v := Value.slice _ _ _) rfl) ?_
    refine JL.nil ?_
    refine J.ret1 (v := Value.slice _ _ _) Tryd.func25 rfl rfl ?_
    exact ⟨_, rfl, some ⟨bs, 0, none⟩, 1, _, _, rfl, OwnSl.all rfl, KidsIs.one ht, (H.pull 1 rfl).drop⟩
  · skip
    rw [lvs_node (by omega)] at hlv ⊢
    refine J.skip ?_
    refine J.seq ?_
    refine J.region ?_
    refine JL.does trivial (EX.buildSlice0 H elO) ?_
    rintro _ w ⟨bo, rfl, H⟩
    refine JL.go trivial (RX.assignv (v := Value.slice _ _ _) rfl) ?_
    refine JL.nil ?_
    replace H := H.pull 1 rfl
    refine J.seq ?_
    refine J.seq ?_
    refine J.region ?_
    refine JL.go trivial (RX.fieldAddr rfl fo25_2 rfl) ?_
    refine JL.go trivial (RX.load H rfl (i := 0) (v := .slice p ks.length c) rfl rfl one23) ?_
    refine JL.go trivial (RX.len_slice rfl (by rw [sl23]; rfl) rfl) ?_
    refine JL.go trivial (RX.move) ?_
    refine JL.nil ?_
    refine J.block ?_
    refine J.loop (ι := Nat × Option Addr × Nat × List Value × Seg) (S := fun z => [(3, .slice z.2.1 (lvsL (ks.take (z.1))).length z.2.2.1), (16, .int .i64 (z.1 : Nat))]) (Φ := fun z w => z.1 ≤ ks.length ∧ OwnSl 25 3 z.2.1 (lvsL (ks.take (z.1))).length z.2.2.1 z.2.2.2.1 z.2.2.2.2 ∧ KidsIs X (lvsL (ks.take (z.1))) z.2.2.2.1 ∧ Hp w0 w ([(b1, cel (tv k n p ks.length c) 25)] :: z.2.2.2.2 :: F)) (μ := fun z => ks.length - z.1) (C := [(14, _), (15, _)]) (0, some ⟨bo, 0, none⟩, 0, [], [(bo, cel [] 25)]) ⟨rfl, rfl, trivial⟩ ⟨rfl, rfl, trivial⟩ ?_ ?_
    · exact ⟨by simp, by simpa [lvsL] using OwnSl.empty, by simp [lvsL, KidsIs], H⟩
    clear H
    rintro ⟨i, q, c2, ys, sl⟩ ρ w ⟨hi, ho, hko, H⟩ IH
    simp only at hi ho hko H
    dsimp only
    refine J.seq ?_
    refine J.region ?_
    refine JL.go trivial (RX.lt rfl rfl) ?_
    refine JL.nil ?_
    refine J.seq ?_
    refine J.cond_d rfl (fun hlt => ?_) (fun hlt => ?_)
    · skip
      obtain ⟨t1, ht1⟩ : ∃ t1, ks[i]? = some t1 := ⟨_, List.getElem?_eq_getElem (by omega)⟩
      obtain ⟨a1, ha1, hi1⟩ := hk.get ht1
      obtain ⟨k1, n1, p1, m1, c1, rfl⟩ := hi1.shape
      have hxl := hk.len
      obtain ⟨pb, po, rfl⟩ := spot_some hs (by omega)
      have hlp := kid_lt (k := k) (n := n) ht1
      have hls := congrArg List.length (lvsL_split ks (i + 1))
      have hlt2 := lvsL_take ht1
      have hla := congrArg List.length hlt2
      simp only [List.length_append] at hls hla
      refine J.skip ?_
      refine J.seq ?_
      refine J.block ?_
      refine J.seq ?_
      refine J.region ?_
      refine JL.go trivial (RX.indexAddr rfl rfl sl23 (by omega) (by omega) (o' := po + i * 3) (by omega)) ?_
      refine JL.go trivial (RX.loadAggS H (hs.perm hX).cons.cons rfl (j := i * 3) (by omega) (vs := tv k1 n1 p1 m1 c1) ha1 ag25) ?_
      refine JL.does trivial (EX.alloc H zr25 rfl) ?_
      rintro _ w ⟨b5, rfl, H⟩
      refine JL.does trivial (EX.storeAgg H rfl rfl (i := 0) (vs := tv k1 n1 p1 m1 c1) (l' := tv k1 n1 p1 m1 c1) rfl tv_cell (by simp) sz25 rfl rfl) ?_
      rintro _ w H
      refine JL.nil ?_
      refine J.region ?_
      refine JL.go trivial (RX.movev (v := Value.slice _ _ _) rfl) ?_
      refine JL.go trivial (RX.loadAgg H rfl (i := 0) (vs := tv k1 n1 p1 m1 c1) rfl rfl ag25) ?_
      refine JL.does trivial (EX.call rfl cl25 rfl ((ih t1 hlp (by omega) _ _ X _ _ (sub_cons (sub_cons (sub_cons hX))) H hi1))) ?_
      rintro _ w ⟨p2, c3, ys2, sl2, rfl, ho2, hk2, H⟩
      refine JL.does trivial (EX.append (ys := ys2) (L' := fun s' => sl2 :: [(b5, cel (tv k1 n1 p1 m1 c1) 25)] :: [(b1, cel (tv k n (some ⟨pb, po, none⟩) ks.length c) 25)] :: s' :: F) H elO rfl rfl (i := 3) rfl ho ho2.slAt ho2.1 hk2.cells (by decide) (by omega) (by omega) (fun _ => rfl)) ?_
      rintro v w ⟨q3, c4, sl3, hv, ho3, H⟩
      rw [← hla] at hv ho3
      subst hv
      refine JL.go trivial (RX.assignv (v := Value.slice _ _ _) rfl) ?_
      refine JL.nil ?_
      refine J.inBlock ?_
      refine J.region ?_
      refine JL.go trivial (RX.add rfl rfl (w_i64 (r := ((i + 1 : Nat) : Int)) (by omega) (by omega) (by omega))) ?_
      refine JL.go trivial (RX.movev (v := Value.int _ _) rfl) ?_
      refine JL.nil ?_
      exact IH (i + 1, q3, c4, ys ++ ys2, sl3) _ _ (by simp only; omega) ⟨rfl, rfl, trivial⟩ ⟨rfl, rfl, trivial⟩ ⟨by simp only; omega, ho3, by rw [hlt2]; exact hko.app hk2, H.drop.drop⟩
    · skip
      have hil : i = ks.length := by omega
      subst hil
      rw [List.take_length] at ho hko
      refine J.exit rfl ?_
      refine J.seq ?_
      refine J.region ?_
      refine JL.go trivial (RX.movev (v := Value.slice _ _ _) rfl) ?_
      refine JL.go trivial (RX.assignv (v := Value.slice _ _ _) rfl) ?_
      refine JL.nil ?_
      refine J.ret1 (v := Value.slice _ _ _) Tryd.func25 rfl rfl ?_
      exact ⟨_, rfl, q, c2, ys, sl, by rw [List.take_length], ho, hko, H.drop⟩
theorem rlv_b : ∀ t, RLvC t := tr_ind fun t ih hp w0 w X F vs hX H ht => by
  obtain ⟨k, n, ks⟩ := t
  have ht0 := ht
  rw [Tr.Is] at ht
  obtain ⟨p, c, xs, rfl, hs, hk⟩ := ht
  exact rlv_step ih hp hX H ht0 hs hk
end Go.Proofs.YtinbeaaloailnaaDoor
