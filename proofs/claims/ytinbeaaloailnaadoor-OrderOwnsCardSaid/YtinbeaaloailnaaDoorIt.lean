/- The iterator of leaves. -/
import Derived.Test.YtinbeaaloailnaaDoorRl
import Derived.Test.YtinbeaaloailnaaDoorEg
namespace Go.Proofs.YtinbeaaloailnaaDoor
open Go Go.Eng
set_option maxRecDepth 100000
set_option linter.unusedVariables false
set_option linter.unusedSimpArgs false
theorem cl52 : callable Tryd.prog 52 = true := by kernel_rfl
theorem cl53 : callable Tryd.prog 53 = true := by kernel_rfl
theorem one35 : oneOf Tryd.prog 35 = true := by kernel_rfl

/-! Leaves, from the left. -/
mutual
def Tr.lvs : Tr → List Tr
  | .node k n [] => [.node k n []]
  | .node _ _ (t :: ts) => t.lvs ++ lvsL ts
def lvsL : List Tr → List Tr
  | [] => []
  | t :: ts => t.lvs ++ lvsL ts
end
theorem lvs_leaf {k n : Int} {ks : List Tr} (h : ks.length = 0) : (Tr.node k n ks).lvs = [.node k n ks] := by
  obtain rfl := List.eq_nil_of_length_eq_zero h
  rw [Tr.lvs]
theorem lvs_node {k n : Int} {ks : List Tr} (h : ks.length ≠ 0) : (Tr.node k n ks).lvs = lvsL ks := by
  cases ks with
  | nil => exact absurd rfl h
  | cons t ts => rw [Tr.lvs, lvsL]
theorem lvsL_snoc : ∀ {ks : List Tr} {t : Tr}, lvsL (ks ++ [t]) = lvsL ks ++ t.lvs
  | [], t => by rw [List.nil_append, lvsL, lvsL, lvsL]; simp
  | x :: ks, t => by rw [List.cons_append, lvsL, lvsL, lvsL_snoc, List.append_assoc]
theorem lvsL_take {ks : List Tr} {i : Nat} {t : Tr} (h : ks[i]? = some t) : lvsL (ks.take (i + 1)) = lvsL (ks.take i) ++ t.lvs := by rw [take_get h, lvsL_snoc]
theorem lvsL_split (ks : List Tr) (i : Nat) : lvsL ks = lvsL (ks.take i) ++ lvsL (ks.drop i) := by
  have key : ∀ a b : List Tr, lvsL (a ++ b) = lvsL a ++ lvsL b := by
    intro a b
    induction a with
    | nil => rw [List.nil_append, lvsL]; rfl
    | cons x a ih => rw [List.cons_append, lvsL, lvsL, ih, List.append_assoc]
  rw [← key, List.take_append_drop]
theorem lvs_len : ∀ (m : Nat) (t : Tr), t.parts ≤ m → t.lvs.length ≤ t.parts
  | 0, t, h => by have := parts_pos t; omega
  | m + 1, t, h => by
    obtain ⟨k, n, ks⟩ := t
    rw [Tr.parts] at h ⊢
    by_cases h0 : ks.length = 0
    · rw [lvs_leaf h0]; simp
    · rw [lvs_node h0]
      have : ∀ l : List Tr, partsL l ≤ m → (lvsL l).length ≤ partsL l := by
        intro l
        induction l with
        | nil => intro _; simp [lvsL]
        | cons x l ih =>
          intro hl
          rw [partsL] at hl ⊢
          rw [lvsL, List.length_append]
          have := lvs_len m x (by omega)
          have := ih (by omega)
          omega
      have := this ks (by omega)
      omega
theorem slApp {X Y : List Seg} {p : Option Addr} {xs : List Value} (h : SlAt X p xs) : SlAt (X ++ Y) p xs := h.perm fun e he => by
  rw [List.flatten_append]; exact List.mem_append_left _ he
theorem Tr.Is.app {X Y : List Seg} {t : Tr} {vs : List Value} (h : t.Is X vs) : t.Is (X ++ Y) vs := h.mono fun e he => by
  rw [List.flatten_append]; exact List.mem_append_left _ he
/-! What a round keeps. -/
abbrev yV (l : Nat) : Value := .func (.yield l) #[] #[]
def YOK (l : Nat) (A : List Tr → List Seg → Prop) (w0 : World) (N : Nat) (F : List Seg) : Prop := ∀ (xs : List Tr) (G X : List Seg) (W : World) (t : Tr) (vs : List Value) (s : Seg), A xs G → xs.length < N → t.Own vs s → Hp w0 W (s :: (X ++ (G ++ F))) →
  YieldAt Fence.wide 0 Tryd.prog l #[.agg vs.toArray] W fun e W' => ∃ v, e = .returned v ∧ (v = .bool true ∧ ∃ G', A (xs ++ [t]) G' ∧ Hp w0 W' (X ++ (G' ++ F)))
def LeafC (t : Tr) : Prop := t.parts ≤ 4194304 → ∀ (w0 w : World) (X G F : List Seg) (vs : List Value) (l by_ N : Nat) (A : List Tr → List Seg → Prop) (xs : List Tr), YOK l A w0 N F → SlAt X (some ⟨by_, 0, none⟩) [yV l] → t.Is X vs → A xs G → xs.length + t.lvs.length ≤ N → Hp w0 w (X ++ (G ++ F)) →
  Ret Tryd.prog 52 [.agg vs.toArray, .func (.func 53) #[] #[.pointer (some ⟨by_, 0, none⟩)]] w fun v w' => v = .bool true ∧ ∃ G', A (xs ++ t.lvs) G' ∧ Hp w0 w' (X ++ (G' ++ F))

theorem leaf1_b {w0 w : World} {X G F : List Seg} {vs : List Value} {l by_ N : Nat} {A : List Tr → List Seg → Prop} {xs : List Tr} {t : Tr} (hp : t.parts ≤ 4194304) (hY : YOK l A w0 N F) (hb : SlAt X (some ⟨by_, 0, none⟩) [yV l]) (ht : t.Is X vs) (hA : A xs G) (hN : xs.length < N) (H : Hp w0 w (X ++ (G ++ F))) : Ret Tryd.prog 53 [.agg vs.toArray, .pointer (some ⟨by_, 0, none⟩)] w fun v w' => v = .bool true ∧ ∃ G', A (xs ++ [t]) G' ∧ Hp w0 w' (X ++ (G' ++ F)) := by
  refine Calls.of_J (n := 8) Tryd.func53 rfl rfl rfl ?_
  refine J.seq ?_
  obtain ⟨k, n, p, m, c, rfl⟩ := ht.shape
  refine J.region ?_
  refine JL.does trivial (EX.box (v := Value.agg _) H rfl rfl) ?_
  rintro _ w ⟨b2, rfl, H⟩
  refine JL.go trivial (RX.assign) ?_
  refine JL.nil ?_
  refine J.seq ?_
  refine J.anyY hmix fun w hs => ?_
  replace H := H.same hs; clear hs
  refine FA.all [0, 1] (by kernel_rfl) (by decide) ?_
  refine ⟨?_, ?_⟩
  · skip
    refine FO.go (listed' := [true, false, false, false, false]) fair_wide rfl rfl rfl trivial (by first | exact RX.loadS H (slApp hb).cons rfl (j := 0) rfl rfl one35 | exact RX.loadS H (slApp hb).cons.cons rfl (j := 0) rfl rfl one35) ?_
    refine FA.all [1] (by kernel_rfl) (by decide) ?_
    refine FO.go (listed' := [true, true, false, false, false]) fair_wide rfl rfl rfl trivial (by first | exact RX.loadAgg H rfl (i := 0) (vs := tv k n p m c) rfl rfl ag25 | exact RX.loadAgg H rfl (i := 1) (vs := tv k n p m c) rfl rfl ag25) ?_
    refine FA.all [2] (by kernel_rfl) (by decide) ?_
    refine FO.does (listed' := [true, true, true, false, false]) fair_wide rfl rfl rfl trivial (EX.call rfl cl41 rfl ((copied_b t hp _ _ _ _ H ht.app.cons))) ?_
    rintro _ w ⟨vs1, s1, rfl, ho1, H⟩
    refine FA.all [3] (by kernel_rfl) (by decide) ?_
    refine FO.doesIn (listed' := [true, true, true, true, false]) fair_wide rfl rfl rfl trivial (EX.yield rfl rfl ((hY xs G ([(b2, cel (tv k n p m c) 25)] :: X) _ t vs1 s1 hA hN ho1 H))) ?_
    rintro _ w ⟨rfl, G1, hA1, H⟩
    refine FA.all [4] (by kernel_rfl) (by decide) ?_
    refine FO.go (listed' := [true, true, true, true, true]) fair_wide rfl rfl rfl trivial (RX.assignv (v := Value.bool _) rfl) ?_
    refine FA.doneJ (by kernel_rfl) ?_
    refine J.ret1 (v := Value.bool _) Tryd.func53 rfl rfl ?_
    exact ⟨_, rfl, rfl, G1, hA1, H.drop⟩
  · skip
    refine FO.go (listed' := [false, true, false, false, false]) fair_wide rfl rfl rfl trivial (by first | exact RX.loadAgg H rfl (i := 0) (vs := tv k n p m c) rfl rfl ag25 | exact RX.loadAgg H rfl (i := 1) (vs := tv k n p m c) rfl rfl ag25) ?_
    refine FA.all [0, 2] (by kernel_rfl) (by decide) ?_
    refine ⟨?_, ?_⟩
    · skip
      refine FO.go (listed' := [true, true, false, false, false]) fair_wide rfl rfl rfl trivial (by first | exact RX.loadS H (slApp hb).cons rfl (j := 0) rfl rfl one35 | exact RX.loadS H (slApp hb).cons.cons rfl (j := 0) rfl rfl one35) ?_
      refine FA.all [2] (by kernel_rfl) (by decide) ?_
      refine FO.does (listed' := [true, true, true, false, false]) fair_wide rfl rfl rfl trivial (EX.call rfl cl41 rfl ((copied_b t hp _ _ _ _ H ht.app.cons))) ?_
      rintro _ w ⟨vs1, s1, rfl, ho1, H⟩
      refine FA.all [3] (by kernel_rfl) (by decide) ?_
      refine FO.doesIn (listed' := [true, true, true, true, false]) fair_wide rfl rfl rfl trivial (EX.yield rfl rfl ((hY xs G ([(b2, cel (tv k n p m c) 25)] :: X) _ t vs1 s1 hA hN ho1 H))) ?_
      rintro _ w ⟨rfl, G1, hA1, H⟩
      refine FA.all [4] (by kernel_rfl) (by decide) ?_
      refine FO.go (listed' := [true, true, true, true, true]) fair_wide rfl rfl rfl trivial (RX.assignv (v := Value.bool _) rfl) ?_
      refine FA.doneJ (by kernel_rfl) ?_
      refine J.ret1 (v := Value.bool _) Tryd.func53 rfl rfl ?_
      exact ⟨_, rfl, rfl, G1, hA1, H.drop⟩
    · skip
      refine FO.does (listed' := [false, true, true, false, false]) fair_wide rfl rfl rfl trivial (EX.call rfl cl41 rfl ((copied_b t hp _ _ _ _ H ht.app.cons))) ?_
      rintro _ w ⟨vs1, s1, rfl, ho1, H⟩
      refine FA.all [0] (by kernel_rfl) (by decide) ?_
      refine FO.go (listed' := [true, true, true, false, false]) fair_wide rfl rfl rfl trivial (by first | exact RX.loadS H (slApp hb).cons rfl (j := 0) rfl rfl one35 | exact RX.loadS H (slApp hb).cons.cons rfl (j := 0) rfl rfl one35) ?_
      refine FA.all [3] (by kernel_rfl) (by decide) ?_
      refine FO.doesIn (listed' := [true, true, true, true, false]) fair_wide rfl rfl rfl trivial (EX.yield rfl rfl ((hY xs G ([(b2, cel (tv k n p m c) 25)] :: X) _ t vs1 s1 hA hN ho1 H))) ?_
      rintro _ w ⟨rfl, G1, hA1, H⟩
      refine FA.all [4] (by kernel_rfl) (by decide) ?_
      refine FO.go (listed' := [true, true, true, true, true]) fair_wide rfl rfl rfl trivial (RX.assignv (v := Value.bool _) rfl) ?_
      refine FA.doneJ (by kernel_rfl) ?_
      refine J.ret1 (v := Value.bool _) Tryd.func53 rfl rfl ?_
      exact ⟨_, rfl, rfl, G1, hA1, H.drop⟩
theorem leaves_step {k n : Int} {ks : List Tr} (ih : ∀ t, t.parts < (Tr.node k n ks).parts → LeafC t) (hp : (Tr.node k n ks).parts ≤ 4194304) {w0 w : World} {X G F : List Seg} {p : Option Addr} {c : Nat} {ys : List Value} {l by_ N : Nat} {A : List Tr → List Seg → Prop} {xs : List Tr} (hY : YOK l A w0 N F) (hb : SlAt X (some ⟨by_, 0, none⟩) [yV l]) (hs : SlAt X p ys) (hk : KidsIs X ks ys) (ht : (Tr.node k n ks).Is X (tv k n p ks.length c)) (hA : A xs G) (hN : xs.length + (Tr.node k n ks).lvs.length ≤ N) (H : Hp w0 w (X ++ (G ++ F))) : Ret Tryd.prog 52 [.agg (tv k n p ks.length c).toArray, .func (.func 53) #[] #[.pointer (some ⟨by_, 0, none⟩)]] w fun v w' => v = .bool true ∧ ∃ G', A (xs ++ (Tr.node k n ks).lvs) G' ∧ Hp w0 w' (X ++ (G' ++ F)) := by
  refine Calls.of_J (n := 26) Tryd.func52 rfl rfl rfl ?_
  refine J.seq ?_
  have hkl := partsL_len ks
  have hpp : (Tr.node k n ks).parts = 1 + partsL ks := by rw [Tr.parts]
  refine J.region ?_
  refine JL.does trivial (EX.box (v := Value.agg _) H rfl rfl) ?_
  rintro _ w ⟨b2, rfl, H⟩
  refine JL.go trivial (RX.assign) ?_
  refine JL.nil ?_
  refine J.seq ?_
  refine J.seq ?_
  refine J.region ?_
  refine JL.go trivial (RX.fieldAddr rfl fo25_2 rfl) ?_
  refine JL.go trivial (RX.load H rfl (i := 0) (v := .slice p ks.length c) rfl rfl one23) ?_
  refine JL.go trivial (RX.len_slice rfl (by rw [sl23]; rfl) rfl) ?_
  refine JL.go trivial (RX.eq rfl rfl) ?_
  refine JL.nil ?_
  refine J.cond_d rfl (fun h0 => ?_) (fun h0 => ?_)
  · skip
    rw [lvs_leaf (by omega)] at hN ⊢
    simp only [List.length_cons, List.length_nil] at hN
    refine J.seq ?_
    refine J.region ?_
    refine JL.go trivial (RX.movev (v := Value.func _ _ _) rfl) ?_
    refine JL.go trivial (RX.loadAgg H rfl (i := 0) (vs := tv k n p ks.length c) rfl rfl ag25) ?_
    refine JL.does trivial (EX.callv (fv := []) (cv := [.pointer (some ⟨by_, 0, none⟩)]) rfl cl53 rfl rfl (leaf1_b (X := [(b2, cel (tv k n p ks.length c) 25)] :: X) (G := G) (F := F) hp hY hb.cons ht.cons hA (by omega) H)) ?_
    rintro _ w ⟨rfl, G1, hA1, H⟩
    refine JL.go trivial (RX.assignv (v := Value.bool _) rfl) ?_
    refine JL.nil ?_
    refine J.ret1 (v := Value.bool _) Tryd.func52 rfl rfl ?_
    exact ⟨_, rfl, rfl, G1, hA1, H.drop⟩
  · skip
    rw [lvs_node (by omega)] at hN ⊢
    refine J.skip ?_
    refine J.seq ?_
    refine J.seq ?_
    refine J.region ?_
    refine JL.go trivial (RX.fieldAddr rfl fo25_2 rfl) ?_
    refine JL.go trivial (RX.load H rfl (i := 0) (v := .slice p ks.length c) rfl rfl one23) ?_
    refine JL.go trivial (RX.len_slice rfl (by rw [sl23]; rfl) rfl) ?_
    refine JL.go trivial (RX.move) ?_
    refine JL.nil ?_
    refine J.block ?_
    refine J.loop (ι := Nat × List Seg) (S := fun z => [(17, .int .i64 (z.1 : Nat))]) (Φ := fun z w => z.1 ≤ ks.length ∧ A (xs ++ lvsL (ks.take z.1)) z.2 ∧ Hp w0 w ([(b2, cel (tv k n p ks.length c) 25)] :: (X ++ (z.2 ++ F)))) (μ := fun z => ks.length - z.1) (C := [(1, _), (15, _), (16, _)]) (0, G) ⟨rfl, rfl, rfl, trivial⟩ ⟨rfl, trivial⟩ ?_ ?_
    · exact ⟨by simp, by simpa [lvsL] using hA, H⟩
    clear H
    rintro ⟨i, G1⟩ ρ w ⟨hi, hA1, H⟩ IH
    simp only at hi hA1 H
    dsimp only
    refine J.seq ?_
    refine J.region ?_
    refine JL.go trivial (RX.lt rfl rfl) ?_
    refine JL.nil ?_
    refine J.seq ?_
    refine J.cond_d rfl (fun hlt => ?_) (fun hlt => ?_)
    · skip
      obtain ⟨t1, ht1⟩ : ∃ t1, ks[i]? = some t1 := ⟨_, List.getElem?_eq_getElem (by omega)⟩
      obtain ⟨a1, ha1, hi1⟩ := hk.get ht1
      obtain ⟨k1, n1, p1, m1, c1, rfl⟩ := hi1.shape
      have hxl := hk.len
      have hlp := kid_lt (k := k) (n := n) ht1
      have hls := congrArg List.length (lvsL_split ks (i + 1))
      have hlt2 := lvsL_take ht1
      rw [hlt2] at hls
      simp only [List.length_append] at hls
      obtain ⟨pb, po, rfl⟩ := spot_some hs (by omega)
      refine J.skip ?_
      refine J.seq ?_
      refine J.block ?_
      refine J.seq ?_
      refine J.region ?_
      refine JL.go trivial (RX.indexAddr rfl rfl sl23 (by omega) (by omega) (o' := po + i * 3) (by omega)) ?_
      refine JL.go trivial (RX.loadAggS H (slApp hs).cons rfl (j := i * 3) (by omega) (vs := tv k1 n1 p1 m1 c1) ha1 ag25) ?_
      refine JL.does trivial (EX.alloc H zr25 rfl) ?_
      rintro _ w ⟨b6, rfl, H⟩
      refine JL.does trivial (EX.storeAgg H rfl rfl (i := 0) (vs := tv k1 n1 p1 m1 c1) (l' := tv k1 n1 p1 m1 c1) rfl tv_cell (by simp) sz25 rfl rfl) ?_
      rintro _ w H
      refine JL.nil ?_
      refine J.seq ?_
      refine J.region ?_
      refine JL.go trivial (RX.loadAgg H rfl (i := 0) (vs := tv k1 n1 p1 m1 c1) rfl rfl ag25) ?_
      refine JL.go trivial (RX.movev (v := Value.func _ _ _) rfl) ?_
      refine JL.does trivial (EX.call rfl cl52 rfl ((ih t1 hlp (by omega) _ _ ([(b6, cel (tv k1 n1 p1 m1 c1) 25)] :: [(b2, cel (tv k n (some ⟨pb, po, none⟩) ks.length c) 25)] :: X) G1 F _ l by_ N A _ hY hb.cons.cons hi1.cons.cons hA1 (by rw [List.length_append]; omega) H))) ?_
      rintro _ w ⟨rfl, G2, hA2, H⟩
      rw [List.append_assoc, ← hlt2] at hA2
      refine JL.go trivial (RX.not rfl) ?_
      refine JL.nil ?_
      refine J.cond_f rfl rfl ?_
      refine J.skip ?_
      refine J.inBlock ?_
      refine J.region ?_
      refine JL.go trivial (RX.add rfl rfl (w_i64 (r := ((i + 1 : Nat) : Int)) (by omega) (by omega) (by omega))) ?_
      refine JL.go trivial (RX.movev (v := Value.int _ _) rfl) ?_
      refine JL.nil ?_
      exact IH (i + 1, G2) _ _ (by simp only; omega) ⟨rfl, rfl, rfl, trivial⟩ ⟨rfl, trivial⟩ ⟨by simp only; omega, hA2, H.drop⟩
    · skip
      have hil : i = ks.length := by omega
      subst hil
      rw [List.take_length] at hA1
      refine J.exit rfl ?_
      refine J.seq ?_
      refine J.region ?_
      refine JL.go trivial (RX.assign) ?_
      refine JL.nil ?_
      refine J.ret1 (v := Value.bool _) Tryd.func52 rfl rfl ?_
      exact ⟨_, rfl, rfl, G1, hA1, H.drop⟩
theorem leaves_b : ∀ t, LeafC t := tr_ind fun t ih hp w0 w X G F vs l by_ N A xs hY hb ht hA hN H => by
  obtain ⟨k, n, ks⟩ := t
  have ht0 := ht
  rw [Tr.Is] at ht
  obtain ⟨p, c, ys, rfl, hs, hk⟩ := ht
  exact leaves_step ih hp hY hb hs hk ht0 hA hN H
theorem seq_b {w0 w : World} {X G F : List Seg} {vs : List Value} {l bt N : Nat} {A : List Tr → List Seg → Prop} {xs : List Tr} {t : Tr} (hp : t.parts ≤ 4194304) (hY : YOK l A w0 N F) (hbt : SlAt X (some ⟨bt, 0, none⟩) vs) (ht : t.Is X vs) (hA : A xs G) (hN : xs.length + t.lvs.length ≤ N) (H : Hp w0 w (X ++ (G ++ F))) : Ret Tryd.prog 51 [yV l, .pointer (some ⟨bt, 0, none⟩)] w fun v w' => v = .tuple #[] ∧ ∃ G', A (xs ++ t.lvs) G' ∧ Hp w0 w' (X ++ (G' ++ F)) := by
  refine Calls.of_J (n := 6) Tryd.func51 rfl rfl rfl ?_
  refine J.seq ?_
  obtain ⟨k, n, p, m, c, rfl⟩ := ht.shape
  refine J.region ?_
  refine JL.does trivial (EX.box (v := Value.func _ _ _) H rfl rfl) ?_
  rintro _ w ⟨by_, rfl, H⟩
  refine JL.nil ?_
  refine J.region ?_
  refine JL.go trivial (RX.loadAggS H (slApp hbt).cons rfl (j := 0) rfl (vs := tv k n p m c) rfl ag25) ?_
  refine JL.go trivial (RX.makeFunc (fv := []) (cv := [.pointer (some ⟨by_, 0, none⟩)]) rfl rfl) ?_
  refine JL.does trivial (EX.call rfl cl52 rfl ((leaves_b t hp _ _ ([(by_, cel [yV l] 35)] :: X) G F _ l by_ N A xs hY (SlAt.here rfl) ht.cons hA hN H))) ?_
  rintro _ w ⟨rfl, G1, hA1, H⟩
  refine JL.nil ?_
  refine J.end0 Tryd.func51 rfl ?_
  exact ⟨_, rfl, rfl, G1, hA1, H.drop⟩
theorem Leaves_b {w0 w : World} {F : List Seg} {vs : List Value} {t : Tr} (hp : t.parts ≤ 4194304) (ht : t.Is F vs) (H : Hp w0 w F) : Ret Tryd.prog 42 [.agg vs.toArray] w fun v w' => ∃ vs' s b, v = .func (.func 51) #[] #[.pointer (some ⟨b, 0, none⟩)] ∧ t.Own vs' s ∧ Hp w0 w' ([(b, cel vs' 25)] :: s :: F) := by
  refine Calls.of_J (n := 7) Tryd.func42 rfl rfl rfl ?_
  refine J.seq ?_
  obtain ⟨k, n, p, m, c, rfl⟩ := ht.shape
  refine J.region ?_
  refine JL.does trivial (EX.box (v := Value.agg _) H rfl rfl) ?_
  rintro _ w ⟨b1, rfl, H⟩
  refine JL.go trivial (RX.assignv (v := Value.nilFunc) rfl) ?_
  refine JL.nil ?_
  refine J.seq ?_
  refine J.region ?_
  refine JL.go trivial (RX.loadAgg H rfl (i := 0) (vs := tv k n p m c) rfl rfl ag25) ?_
  refine JL.does trivial (EX.call rfl cl41 rfl ((copied_b t hp _ _ _ _ H ht.cons))) ?_
  rintro _ w ⟨vs1, s1, rfl, ho1, H⟩
  obtain ⟨k1, n1, p1, m1, c1, rfl⟩ := ho1.shape
  refine JL.does trivial (EX.alloc H zr25 rfl) ?_
  rintro _ w ⟨b3, rfl, H⟩
  refine JL.does trivial (EX.storeAgg H rfl rfl (i := 0) (vs := tv k1 n1 p1 m1 c1) (l' := tv k1 n1 p1 m1 c1) rfl tv_cell (by simp) sz25 rfl rfl) ?_
  rintro _ w H
  refine JL.nil ?_
  refine J.seq ?_
  refine J.region ?_
  refine JL.go trivial (RX.makeFunc (fv := []) (cv := [.pointer (some ⟨b3, 0, none⟩)]) rfl rfl) ?_
  refine JL.go trivial (RX.assignv (v := Value.func _ _ _) rfl) ?_
  refine JL.nil ?_
  refine J.ret1 Tryd.func42 rfl rfl ?_
  exact ⟨_, rfl, _, s1, b3, rfl, ho1, (H.pull 2 rfl).drop⟩
end Go.Proofs.YtinbeaaloailnaaDoor
