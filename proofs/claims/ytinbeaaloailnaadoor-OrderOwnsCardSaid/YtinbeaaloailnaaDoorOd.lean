/- Orders made, copied and measured. -/
import Derived.Test.YtinbeaaloailnaaDoorTr
namespace Go.Proofs.YtinbeaaloailnaaDoor
open Go Go.Eng
set_option maxRecDepth 100000
set_option linter.unusedVariables false
set_option linter.unusedSimpArgs false
theorem ag25 : aggOf Tryd.prog 25 = some 3 := by kernel_rfl
theorem cl41 : callable Tryd.prog 41 = true := by kernel_rfl
theorem fo25_2 : fieldOff Tryd.prog 25 2 = some 2 := by kernel_rfl
theorem one23 : oneOf Tryd.prog 23 = true := by kernel_rfl
theorem sl23 : sliceOf Tryd.prog 23 = some (25, 3) := by kernel_rfl
theorem sz23 : szOf Tryd.prog 23 = some 1 := by kernel_rfl
theorem sz25 : szOf Tryd.prog 25 = some 3 := by kernel_rfl
theorem zr25 : (Tryd.prog.info? 25).bind (·.zero) = some (.agg #[.int .i64 0, .int .i64 0, .slice none 0 0]) := by kernel_rfl

@[reducible] def tv (k n : Int) (p : Option Addr) (m c : Nat) : List Value := [.int .i64 k, .int .i64 n, .slice p m c]
theorem tr_ind {C : Tr → Prop} (h : ∀ t, (∀ t', t'.parts < t.parts → C t') → C t) : ∀ t, C t := fun t => (measure Tr.parts).wf.induction t h
theorem Tr.Is.shape {L : List Seg} {t : Tr} {vs : List Value} (h : t.Is L vs) : ∃ k n p m c, vs = tv k n p m c := by
  obtain ⟨k, n, ks⟩ := t
  rw [Tr.Is] at h
  obtain ⟨p, c, xs, rfl, _⟩ := h
  exact ⟨_, _, _, _, _, rfl⟩
theorem Tr.Own.shape {t : Tr} {vs : List Value} {s : Seg} (h : t.Own vs s) : ∃ k n p m c, vs = tv k n p m c := by
  obtain ⟨k, n, ks⟩ := t
  rw [Tr.Own] at h
  obtain ⟨p, c, xs, sl, ss, rfl, _⟩ := h
  exact ⟨_, _, _, _, _, rfl⟩
theorem tv_cell {k n : Int} {p : Option Addr} {m c : Nat} : ∀ v ∈ tv k n p m c, isCell v = true := by simp [isCell]
theorem elO : Elem Tryd.prog 23 25 3 40 := Elem.of (by kernel_rfl)
def CopyC (t : Tr) : Prop := t.parts ≤ 4194304 → ∀ (w0 w : World) (F : List Seg) (vs : List Value), Hp w0 w F → t.Is F vs →
  Ret Tryd.prog 41 [.agg vs.toArray] w fun v w' => ∃ vs' s, v = .agg vs'.toArray ∧ t.Own vs' s ∧ Hp w0 w' (s :: F)
theorem spot_some {F : List Seg} {p : Option Addr} {xs : List Value} (hs : SlAt F p xs) (h : 0 < xs.length) : ∃ pb po, p = some ⟨pb, po, none⟩ := by
  rcases hs with e | ⟨b', off, C, T, fz, e, _⟩
  · rw [e] at h; exact absurd h (by simp)
  · exact ⟨b', off, e⟩

theorem Direct_b {w0 w : World} {F : List Seg} (H : Hp w0 w F) {n : Int} : Ret Tryd.prog 32 [.int .i64 n] w fun v w' => v = .agg (tv 1 n none 0 0).toArray ∧ Hp w0 w' F := by
  refine Calls.of_J (n := 5) Tryd.func32 rfl rfl rfl ?_
  refine J.seq ?_
  refine J.region ?_
  refine JL.does trivial (EX.alloc H zr25 rfl) ?_
  rintro _ w ⟨b1, rfl, H⟩
  refine JL.nil ?_
  refine J.seq ?_
  refine J.region ?_
  refine JL.go trivial (RX.movev (v := Value.int _ _) rfl) ?_
  refine JL.go trivial (RX.build (pv := [(0, .int .i64 1), (1, .int .i64 n)]) (res := tv 1 n none 0 0) rfl (by kernel_rfl)) ?_
  refine JL.does trivial (EX.storeAgg H rfl rfl (i := 0) (vs := tv 1 n none 0 0) (l' := tv 1 n none 0 0) rfl tv_cell (by simp) sz25 rfl rfl) ?_
  rintro _ w H
  refine JL.nil ?_
  refine J.retc Tryd.func32 rfl H rfl (i := 0) (vs := tv 1 n none 0 0) rfl rfl ag25 ?_
  exact ⟨_, rfl, rfl, H.drop⟩
theorem Fly_b {w0 w : World} {F : List Seg} (H : Hp w0 w F) {n : Int} : Ret Tryd.prog 31 [.int .i64 n] w fun v w' => v = .agg (tv 2 n none 0 0).toArray ∧ Hp w0 w' F := by
  refine Calls.of_J (n := 5) Tryd.func31 rfl rfl rfl ?_
  refine J.seq ?_
  refine J.region ?_
  refine JL.does trivial (EX.alloc H zr25 rfl) ?_
  rintro _ w ⟨b1, rfl, H⟩
  refine JL.nil ?_
  refine J.seq ?_
  refine J.region ?_
  refine JL.go trivial (RX.movev (v := Value.int _ _) rfl) ?_
  refine JL.go trivial (RX.build (pv := [(0, .int .i64 2), (1, .int .i64 n)]) (res := tv 2 n none 0 0) rfl (by kernel_rfl)) ?_
  refine JL.does trivial (EX.storeAgg H rfl rfl (i := 0) (vs := tv 2 n none 0 0) (l' := tv 2 n none 0 0) rfl tv_cell (by simp) sz25 rfl rfl) ?_
  rintro _ w H
  refine JL.nil ?_
  refine J.retc Tryd.func31 rfl H rfl (i := 0) (vs := tv 2 n none 0 0) rfl rfl ag25 ?_
  exact ⟨_, rfl, rfl, H.drop⟩
theorem copied_step {k n : Int} {ks : List Tr} (ih : ∀ t, t.parts < (Tr.node k n ks).parts → CopyC t) (hp : (Tr.node k n ks).parts ≤ 4194304) {w0 w : World} {F : List Seg} (H : Hp w0 w F) {p : Option Addr} {c : Nat} {xs : List Value} (hs : SlAt F p xs) (hk : KidsIs F ks xs) : Ret Tryd.prog 41 [.agg (tv k n p ks.length c).toArray] w fun v w' => ∃ vs' s, v = .agg vs'.toArray ∧ (Tr.node k n ks).Own vs' s ∧ Hp w0 w' (s :: F) := by
  refine Calls.of_J (n := 24) Tryd.func41 rfl rfl rfl ?_
  refine J.seq ?_
  have hkl := partsL_len ks
  have hpp : (Tr.node k n ks).parts = 1 + partsL ks := by rw [Tr.parts]
  refine J.region ?_
  refine JL.does trivial (EX.box (v := Value.agg _) H rfl rfl) ?_
  rintro _ w ⟨b1, rfl, H⟩
  refine JL.does trivial (EX.alloc H zr25 rfl) ?_
  rintro _ w ⟨b2, rfl, H⟩
  refine JL.nil ?_
  refine J.seq ?_
  refine J.region ?_
  refine JL.go trivial (RX.fieldAddr rfl fo25_2 rfl) ?_
  refine JL.go trivial (RX.load H rfl (i := 1) (v := .slice p ks.length c) rfl rfl one23) ?_
  refine JL.go trivial (RX.assignv (v := Value.slice _ _ _) rfl) ?_
  refine JL.nil ?_
  refine J.seq ?_
  refine J.region ?_
  refine JL.go trivial (RX.fieldAddr rfl fo25_2 rfl) ?_
  refine JL.does trivial (EX.store (v := Value.slice _ _ _) H rfl rfl (i := 1) (l' := tv k n none 0 0) rfl rfl (by simp) sz23 rfl rfl) ?_
  rintro _ w H
  refine JL.nil ?_
  refine J.seq ?_
  refine J.seq ?_
  refine J.region ?_
  refine JL.go trivial (RX.movev (v := Value.slice _ _ _) rfl) ?_
  refine JL.go trivial (RX.len_slice rfl (by rw [sl23]; rfl) rfl) ?_
  refine JL.go trivial (RX.move) ?_
  refine JL.nil ?_
  refine J.block ?_
  refine J.loop (ι := Nat × Option Addr × Nat × List Value × Seg × Seg) (S := fun z => [(11, .int .i64 (z.1 : Nat))]) (Φ := fun z w => z.1 ≤ ks.length ∧ OwnSl 25 3 z.2.1 z.1 z.2.2.1 z.2.2.2.1 z.2.2.2.2.1 ∧ KidsOwn (ks.take z.1) z.2.2.2.1 z.2.2.2.2.2 ∧ Hp w0 w ([(b2, cel (tv 0 0 none 0 0) 25)] :: [(b1, cel (tv k n z.2.1 z.1 z.2.2.1) 25)] :: z.2.2.2.2.1 :: z.2.2.2.2.2 :: F)) (μ := fun z => ks.length - z.1) (C := [(1, _), (2, _), (9, _), (10, _)]) (0, none, 0, [], [], []) ⟨rfl, rfl, rfl, rfl, trivial⟩ ⟨rfl, trivial⟩ ?_ ?_
  · exact ⟨by simp, OwnSl.nil, KidsOwn.nil, ((H.nil.nil).pull 3 rfl).pull 3 rfl⟩
  clear H
  rintro ⟨i, q, c2, ys, sl, ss⟩ ρ w ⟨hi, ho, hko, H⟩ IH
  simp only at hi ho hko H
  dsimp only
  refine J.seq ?_
  refine J.region ?_
  refine JL.go trivial (RX.lt rfl rfl) ?_
  refine JL.nil ?_
  refine J.seq ?_
  refine J.cond_d rfl (fun hlt => ?_) (fun hlt => ?_)
  · skip
    have hil : i < ks.length := by omega
    obtain ⟨t1, ht1⟩ : ∃ t1, ks[i]? = some t1 := ⟨_, List.getElem?_eq_getElem hil⟩
    have htp := kid_lt (k := k) (n := n) ht1
    obtain ⟨a1, ha1, hi1⟩ := hk.get ht1
    obtain ⟨k1, n1, p1, m1, c1, rfl⟩ := hi1.shape
    have hxl := hk.len
    have H0 := H
    obtain ⟨pb, po, rfl⟩ := spot_some hs (by omega)
    have H := H0
    refine J.skip ?_
    refine J.seq ?_
    refine J.block ?_
    refine J.seq ?_
    refine J.region ?_
    refine JL.go trivial (RX.indexAddr rfl rfl sl23 (by omega) (by omega) (o' := po + i * 3) (by omega)) ?_
    refine JL.go trivial (RX.loadAggS H hs.cons.cons.cons.cons rfl (j := i * 3) (by omega) (vs := tv k1 n1 p1 m1 c1) ha1 ag25) ?_
    refine JL.does trivial (EX.alloc H zr25 rfl) ?_
    rintro _ w ⟨b5, rfl, H⟩
    refine JL.does trivial (EX.storeAgg H rfl rfl (i := 0) (vs := tv k1 n1 p1 m1 c1) (l' := tv k1 n1 p1 m1 c1) rfl tv_cell (by simp) sz25 rfl rfl) ?_
    rintro _ w H
    refine JL.nil ?_
    refine J.any hmix fun w hs => ?_
    replace H := H.same hs; clear hs
    refine JA.take 0 (listed' := [true, false, false, false, false, false, false, false]) rfl (by kernel_rfl) (by kernel_rfl) (by kernel_rfl) rfl trivial (fun w => RX.fieldAddr rfl fo25_2 rfl) ?_
    refine JA.all [1, 2] (by kernel_rfl) (by decide) ?_
    refine ⟨?_, ?_⟩
    · skip
      refine JO.go (listed' := [true, true, false, false, false, false, false, false]) rfl rfl trivial (by first | exact RX.load H rfl (i := 2) (v := .slice q i c2) rfl rfl one23 | exact RX.load H rfl (i := 3) (v := .slice q i c2) rfl rfl one23 | exact RX.load H rfl (i := 4) (v := .slice q i c2) rfl rfl one23) ?_
      refine JA.all [2] (by kernel_rfl) (by decide) ?_
      refine JO.go (listed' := [true, true, true, false, false, false, false, false]) rfl rfl trivial (RX.loadAgg H rfl (i := 0) (vs := tv k1 n1 p1 m1 c1) rfl rfl ag25) ?_
      refine JA.all [3] (by kernel_rfl) (by decide) ?_
      refine JO.does (listed' := [true, true, true, true, false, false, false, false]) rfl rfl trivial (EX.call rfl cl41 rfl ((ih t1 htp (by omega) _ _ _ _ H hi1.cons.cons.cons.cons.cons))) ?_
      rintro _ w ⟨vs1, s1, rfl, ho1, H⟩
      obtain ⟨k2, n2, p2, m2, c3, rfl⟩ := ho1.shape
      refine JA.all [4] (by kernel_rfl) (by decide) ?_
      refine JO.does (listed' := [true, true, true, true, true, false, false, false]) rfl rfl trivial (EX.buildSlice (pv := [(0, .agg (tv k2 n2 p2 m2 c3).toArray)]) (l := tv k2 n2 p2 m2 c3) (e := 25) H rfl (by kernel_rfl)) ?_
      rintro _ w ⟨bb, rfl, H⟩
      refine JA.all [5] (by kernel_rfl) (by decide) ?_
      refine JO.does (listed' := [true, true, true, true, true, true, false, false]) rfl rfl trivial (EX.append (ys := tv k2 n2 p2 m2 c3) (L' := fun s' => [(bb, cel (tv k2 n2 p2 m2 c3) 25)] :: s1 :: [(b5, cel (tv k1 n1 p1 m1 c1) 25)] :: [(b2, cel (tv 0 0 none 0 0) 25)] :: [(b1, cel (tv k n q i c2) 25)] :: s' :: ss :: F) H elO rfl rfl (i := 5) rfl ho (SlAt.here rfl) rfl tv_cell (by decide) (by omega) (by omega) (fun _ => rfl)) ?_
      rintro _ w ⟨q2, c4, sl2, rfl, ho2, H⟩
      refine JA.take 6 (listed' := [true, true, true, true, true, true, true, false]) rfl (by kernel_rfl) (by kernel_rfl) (by kernel_rfl) rfl trivial (fun w => RX.fieldAddr rfl fo25_2 rfl) ?_
      refine JA.all [7] (by kernel_rfl) (by decide) ?_
      refine JO.does (listed' := [true, true, true, true, true, true, true, true]) rfl rfl trivial (EX.store (v := Value.slice _ _ _) H rfl rfl (i := 4) (l' := tv k n q2 (i + 1) c4) rfl rfl (by simp) sz23 rfl rfl) ?_
      rintro _ w H
      refine JA.done (by kernel_rfl) ?_
      refine J.inBlock ?_
      refine J.region ?_
      refine JL.go trivial (RX.add rfl rfl (w_i64 (r := ((i + 1 : Nat) : Int)) (by omega) (by omega) (by omega))) ?_
      refine JL.go trivial (RX.movev (v := Value.int _ _) rfl) ?_
      refine JL.nil ?_
      have hko2 := hko.snoc ho1
      rw [← take_get ht1] at hko2
      exact IH (i + 1, q2, c4, ys ++ tv k2 n2 p2 m2 c3, sl2, ss ++ s1) _ _ (by simp only; omega) ⟨rfl, rfl, rfl, rfl, trivial⟩ ⟨rfl, trivial⟩ ⟨by simp only; omega, ho2, hko2, ((((((H.drop.pull 1 rfl).drop).pull 4 rfl).join.pull 3 rfl).pull 3 rfl).pull 3 rfl)⟩
    · skip
      refine JO.go (listed' := [true, false, true, false, false, false, false, false]) rfl rfl trivial (RX.loadAgg H rfl (i := 0) (vs := tv k1 n1 p1 m1 c1) rfl rfl ag25) ?_
      refine JA.all [1, 3] (by kernel_rfl) (by decide) ?_
      refine ⟨?_, ?_⟩
      · skip
        refine JO.go (listed' := [true, true, true, false, false, false, false, false]) rfl rfl trivial (by first | exact RX.load H rfl (i := 2) (v := .slice q i c2) rfl rfl one23 | exact RX.load H rfl (i := 3) (v := .slice q i c2) rfl rfl one23 | exact RX.load H rfl (i := 4) (v := .slice q i c2) rfl rfl one23) ?_
        refine JA.all [3] (by kernel_rfl) (by decide) ?_
        refine JO.does (listed' := [true, true, true, true, false, false, false, false]) rfl rfl trivial (EX.call rfl cl41 rfl ((ih t1 htp (by omega) _ _ _ _ H hi1.cons.cons.cons.cons.cons))) ?_
        rintro _ w ⟨vs1, s1, rfl, ho1, H⟩
        obtain ⟨k2, n2, p2, m2, c3, rfl⟩ := ho1.shape
        refine JA.all [4] (by kernel_rfl) (by decide) ?_
        refine JO.does (listed' := [true, true, true, true, true, false, false, false]) rfl rfl trivial (EX.buildSlice (pv := [(0, .agg (tv k2 n2 p2 m2 c3).toArray)]) (l := tv k2 n2 p2 m2 c3) (e := 25) H rfl (by kernel_rfl)) ?_
        rintro _ w ⟨bb, rfl, H⟩
        refine JA.all [5] (by kernel_rfl) (by decide) ?_
        refine JO.does (listed' := [true, true, true, true, true, true, false, false]) rfl rfl trivial (EX.append (ys := tv k2 n2 p2 m2 c3) (L' := fun s' => [(bb, cel (tv k2 n2 p2 m2 c3) 25)] :: s1 :: [(b5, cel (tv k1 n1 p1 m1 c1) 25)] :: [(b2, cel (tv 0 0 none 0 0) 25)] :: [(b1, cel (tv k n q i c2) 25)] :: s' :: ss :: F) H elO rfl rfl (i := 5) rfl ho (SlAt.here rfl) rfl tv_cell (by decide) (by omega) (by omega) (fun _ => rfl)) ?_
        rintro _ w ⟨q2, c4, sl2, rfl, ho2, H⟩
        refine JA.take 6 (listed' := [true, true, true, true, true, true, true, false]) rfl (by kernel_rfl) (by kernel_rfl) (by kernel_rfl) rfl trivial (fun w => RX.fieldAddr rfl fo25_2 rfl) ?_
        refine JA.all [7] (by kernel_rfl) (by decide) ?_
        refine JO.does (listed' := [true, true, true, true, true, true, true, true]) rfl rfl trivial (EX.store (v := Value.slice _ _ _) H rfl rfl (i := 4) (l' := tv k n q2 (i + 1) c4) rfl rfl (by simp) sz23 rfl rfl) ?_
        rintro _ w H
        refine JA.done (by kernel_rfl) ?_
        refine J.inBlock ?_
        refine J.region ?_
        refine JL.go trivial (RX.add rfl rfl (w_i64 (r := ((i + 1 : Nat) : Int)) (by omega) (by omega) (by omega))) ?_
        refine JL.go trivial (RX.movev (v := Value.int _ _) rfl) ?_
        refine JL.nil ?_
        have hko2 := hko.snoc ho1
        rw [← take_get ht1] at hko2
        exact IH (i + 1, q2, c4, ys ++ tv k2 n2 p2 m2 c3, sl2, ss ++ s1) _ _ (by simp only; omega) ⟨rfl, rfl, rfl, rfl, trivial⟩ ⟨rfl, trivial⟩ ⟨by simp only; omega, ho2, hko2, ((((((H.drop.pull 1 rfl).drop).pull 4 rfl).join.pull 3 rfl).pull 3 rfl).pull 3 rfl)⟩
      · skip
        refine JO.does (listed' := [true, false, true, true, false, false, false, false]) rfl rfl trivial (EX.call rfl cl41 rfl ((ih t1 htp (by omega) _ _ _ _ H hi1.cons.cons.cons.cons.cons))) ?_
        rintro _ w ⟨vs1, s1, rfl, ho1, H⟩
        obtain ⟨k2, n2, p2, m2, c3, rfl⟩ := ho1.shape
        refine JA.all [1, 4] (by kernel_rfl) (by decide) ?_
        refine ⟨?_, ?_⟩
        · skip
          refine JO.go (listed' := [true, true, true, true, false, false, false, false]) rfl rfl trivial (by first | exact RX.load H rfl (i := 2) (v := .slice q i c2) rfl rfl one23 | exact RX.load H rfl (i := 3) (v := .slice q i c2) rfl rfl one23 | exact RX.load H rfl (i := 4) (v := .slice q i c2) rfl rfl one23) ?_
          refine JA.all [4] (by kernel_rfl) (by decide) ?_
          refine JO.does (listed' := [true, true, true, true, true, false, false, false]) rfl rfl trivial (EX.buildSlice (pv := [(0, .agg (tv k2 n2 p2 m2 c3).toArray)]) (l := tv k2 n2 p2 m2 c3) (e := 25) H rfl (by kernel_rfl)) ?_
          rintro _ w ⟨bb, rfl, H⟩
          refine JA.all [5] (by kernel_rfl) (by decide) ?_
          refine JO.does (listed' := [true, true, true, true, true, true, false, false]) rfl rfl trivial (EX.append (ys := tv k2 n2 p2 m2 c3) (L' := fun s' => [(bb, cel (tv k2 n2 p2 m2 c3) 25)] :: s1 :: [(b5, cel (tv k1 n1 p1 m1 c1) 25)] :: [(b2, cel (tv 0 0 none 0 0) 25)] :: [(b1, cel (tv k n q i c2) 25)] :: s' :: ss :: F) H elO rfl rfl (i := 5) rfl ho (SlAt.here rfl) rfl tv_cell (by decide) (by omega) (by omega) (fun _ => rfl)) ?_
          rintro _ w ⟨q2, c4, sl2, rfl, ho2, H⟩
          refine JA.take 6 (listed' := [true, true, true, true, true, true, true, false]) rfl (by kernel_rfl) (by kernel_rfl) (by kernel_rfl) rfl trivial (fun w => RX.fieldAddr rfl fo25_2 rfl) ?_
          refine JA.all [7] (by kernel_rfl) (by decide) ?_
          refine JO.does (listed' := [true, true, true, true, true, true, true, true]) rfl rfl trivial (EX.store (v := Value.slice _ _ _) H rfl rfl (i := 4) (l' := tv k n q2 (i + 1) c4) rfl rfl (by simp) sz23 rfl rfl) ?_
          rintro _ w H
          refine JA.done (by kernel_rfl) ?_
          refine J.inBlock ?_
          refine J.region ?_
          refine JL.go trivial (RX.add rfl rfl (w_i64 (r := ((i + 1 : Nat) : Int)) (by omega) (by omega) (by omega))) ?_
          refine JL.go trivial (RX.movev (v := Value.int _ _) rfl) ?_
          refine JL.nil ?_
          have hko2 := hko.snoc ho1
          rw [← take_get ht1] at hko2
          exact IH (i + 1, q2, c4, ys ++ tv k2 n2 p2 m2 c3, sl2, ss ++ s1) _ _ (by simp only; omega) ⟨rfl, rfl, rfl, rfl, trivial⟩ ⟨rfl, trivial⟩ ⟨by simp only; omega, ho2, hko2, ((((((H.drop.pull 1 rfl).drop).pull 4 rfl).join.pull 3 rfl).pull 3 rfl).pull 3 rfl)⟩
        · skip
          refine JO.does (listed' := [true, false, true, true, true, false, false, false]) rfl rfl trivial (EX.buildSlice (pv := [(0, .agg (tv k2 n2 p2 m2 c3).toArray)]) (l := tv k2 n2 p2 m2 c3) (e := 25) H rfl (by kernel_rfl)) ?_
          rintro _ w ⟨bb, rfl, H⟩
          refine JA.all [1] (by kernel_rfl) (by decide) ?_
          refine JO.go (listed' := [true, true, true, true, true, false, false, false]) rfl rfl trivial (by first | exact RX.load H rfl (i := 2) (v := .slice q i c2) rfl rfl one23 | exact RX.load H rfl (i := 3) (v := .slice q i c2) rfl rfl one23 | exact RX.load H rfl (i := 4) (v := .slice q i c2) rfl rfl one23) ?_
          refine JA.all [5] (by kernel_rfl) (by decide) ?_
          refine JO.does (listed' := [true, true, true, true, true, true, false, false]) rfl rfl trivial (EX.append (ys := tv k2 n2 p2 m2 c3) (L' := fun s' => [(bb, cel (tv k2 n2 p2 m2 c3) 25)] :: s1 :: [(b5, cel (tv k1 n1 p1 m1 c1) 25)] :: [(b2, cel (tv 0 0 none 0 0) 25)] :: [(b1, cel (tv k n q i c2) 25)] :: s' :: ss :: F) H elO rfl rfl (i := 5) rfl ho (SlAt.here rfl) rfl tv_cell (by decide) (by omega) (by omega) (fun _ => rfl)) ?_
          rintro _ w ⟨q2, c4, sl2, rfl, ho2, H⟩
          refine JA.take 6 (listed' := [true, true, true, true, true, true, true, false]) rfl (by kernel_rfl) (by kernel_rfl) (by kernel_rfl) rfl trivial (fun w => RX.fieldAddr rfl fo25_2 rfl) ?_
          refine JA.all [7] (by kernel_rfl) (by decide) ?_
          refine JO.does (listed' := [true, true, true, true, true, true, true, true]) rfl rfl trivial (EX.store (v := Value.slice _ _ _) H rfl rfl (i := 4) (l' := tv k n q2 (i + 1) c4) rfl rfl (by simp) sz23 rfl rfl) ?_
          rintro _ w H
          refine JA.done (by kernel_rfl) ?_
          refine J.inBlock ?_
          refine J.region ?_
          refine JL.go trivial (RX.add rfl rfl (w_i64 (r := ((i + 1 : Nat) : Int)) (by omega) (by omega) (by omega))) ?_
          refine JL.go trivial (RX.movev (v := Value.int _ _) rfl) ?_
          refine JL.nil ?_
          have hko2 := hko.snoc ho1
          rw [← take_get ht1] at hko2
          exact IH (i + 1, q2, c4, ys ++ tv k2 n2 p2 m2 c3, sl2, ss ++ s1) _ _ (by simp only; omega) ⟨rfl, rfl, rfl, rfl, trivial⟩ ⟨rfl, trivial⟩ ⟨by simp only; omega, ho2, hko2, ((((((H.drop.pull 1 rfl).drop).pull 4 rfl).join.pull 3 rfl).pull 3 rfl).pull 3 rfl)⟩
  · skip
    have hil : i = ks.length := by omega
    subst hil
    rw [List.take_length] at hko
    refine J.exit rfl ?_
    refine J.seq ?_
    refine J.region ?_
    refine JL.go trivial (RX.loadAgg H rfl (i := 1) (vs := tv k n q ks.length c2) rfl rfl ag25) ?_
    refine JL.does trivial (EX.storeAgg H rfl rfl (i := 0) (vs := tv k n q ks.length c2) (l' := tv k n q ks.length c2) rfl tv_cell (by simp) sz25 rfl rfl) ?_
    rintro _ w H
    refine JL.nil ?_
    refine J.retc Tryd.func41 rfl H rfl (i := 0) (vs := tv k n q ks.length c2) rfl rfl ag25 ?_
    exact ⟨_, rfl, _, sl ++ ss, rfl, Tr.Own.mk ho hko, H.drop.drop.join⟩
theorem copied_b : ∀ t, CopyC t := tr_ind fun t ih hp w0 w F vs H ht => by
  obtain ⟨k, n, ks⟩ := t
  rw [Tr.Is] at ht
  obtain ⟨p, c, xs, rfl, hs, hk⟩ := ht
  exact copied_step ih hp H hs hk
theorem Times_b {w0 w : World} {F : List Seg} (H : Hp w0 w F) {a b : Tr} {vs us : List Value} (ha : a.Is F vs) (hb : b.Is F us) (hpa : a.parts ≤ 4194304) (hpb : b.parts ≤ 4194304) : Ret Tryd.prog 21 [.agg vs.toArray, .agg us.toArray] w fun v w' => ∃ vs' s, v = .agg vs'.toArray ∧ (Tr.node 3 0 [a, b]).Own vs' s ∧ Hp w0 w' (s :: F) := by
  refine Calls.of_J (n := 11) Tryd.func21 rfl rfl rfl ?_
  refine J.seq ?_
  obtain ⟨ka, na, pa, ma, ca, rfl⟩ := ha.shape
  obtain ⟨kb, nb, pb, mb, cb, rfl⟩ := hb.shape
  refine J.region ?_
  refine JL.does trivial (EX.box (v := Value.agg _) H rfl rfl) ?_
  rintro _ w ⟨b1, rfl, H⟩
  refine JL.does trivial (EX.box (v := Value.agg _) H rfl rfl) ?_
  rintro _ w ⟨b2, rfl, H⟩
  refine JL.does trivial (EX.alloc H zr25 rfl) ?_
  rintro _ w ⟨b3, rfl, H⟩
  refine JL.nil ?_
  refine J.seq ?_
  refine J.any hmix fun w hs => ?_
  replace H := H.same hs; clear hs
  refine JA.all [0, 2] (by kernel_rfl) (by decide) ?_
  refine ⟨?_, ?_⟩
  · skip
    refine JO.go (listed' := [true, false, false, false, false, false, false]) rfl rfl trivial (RX.loadAgg H rfl (i := 2) (vs := tv ka na pa ma ca) rfl rfl ag25) ?_
    refine JA.all [1, 2] (by kernel_rfl) (by decide) ?_
    refine ⟨?_, ?_⟩
    · skip
      refine JO.does (listed' := [true, true, false, false, false, false, false]) rfl rfl trivial (EX.call rfl cl41 rfl ((copied_b a hpa _ _ _ _ H ha.cons.cons.cons))) ?_
      rintro _ w ⟨vs1, s1, rfl, ho1, H⟩
      obtain ⟨ka2, na2, pa2, ma2, ca2, rfl⟩ := ho1.shape
      refine JA.all [2] (by kernel_rfl) (by decide) ?_
      refine JO.go (listed' := [true, true, true, false, false, false, false]) rfl rfl trivial (by first | exact RX.loadAgg H rfl (i := 1) (vs := tv kb nb pb mb cb) rfl rfl ag25 | exact RX.loadAgg H rfl (i := 2) (vs := tv kb nb pb mb cb) rfl rfl ag25) ?_
      refine JA.all [3] (by kernel_rfl) (by decide) ?_
      refine JO.does (listed' := [true, true, true, true, false, false, false]) rfl rfl trivial (EX.call rfl cl41 rfl ((copied_b b hpb _ _ _ _ H hb.cons.cons.cons.cons))) ?_
      rintro _ w ⟨vs2, s2, rfl, ho2, H⟩
      obtain ⟨kb2, nb2, pb2, mb2, cb2, rfl⟩ := ho2.shape
      refine JA.all [4] (by kernel_rfl) (by decide) ?_
      refine JO.does (listed' := [true, true, true, true, true, false, false]) rfl rfl trivial (EX.buildSlice (pv := [(0, .agg (tv ka2 na2 pa2 ma2 ca2).toArray), (1, .agg (tv kb2 nb2 pb2 mb2 cb2).toArray)]) (l := tv ka2 na2 pa2 ma2 ca2 ++ tv kb2 nb2 pb2 mb2 cb2) (e := 25) H rfl (by kernel_rfl)) ?_
      rintro _ w ⟨bb, rfl, H⟩
      refine JA.take 5 (listed' := [true, true, true, true, true, true, false]) rfl (by kernel_rfl) (by kernel_rfl) (by kernel_rfl) rfl trivial (fun w => RX.build (pv := [(0, .int .i64 3), (2, .slice (some ⟨bb, 0, none⟩) 2 2)]) (res := tv 3 0 (some ⟨bb, 0, none⟩) 2 2) rfl (by kernel_rfl)) ?_
      refine JA.all [6] (by kernel_rfl) (by decide) ?_
      refine JO.does (listed' := [true, true, true, true, true, true, true]) rfl rfl trivial (EX.storeAgg H rfl rfl (i := 3) (vs := tv 3 0 (some ⟨bb, 0, none⟩) 2 2) (l' := tv 3 0 (some ⟨bb, 0, none⟩) 2 2) rfl tv_cell (by simp) sz25 rfl rfl) ?_
      rintro _ w H
      refine JA.done (by kernel_rfl) ?_
      refine J.retc Tryd.func21 rfl H rfl (i := 3) (vs := tv 3 0 (some ⟨bb, 0, none⟩) 2 2) rfl rfl ag25 ?_
      exact ⟨_, rfl, _, [(bb, cel (tv ka2 na2 pa2 ma2 ca2 ++ tv kb2 nb2 pb2 mb2 cb2) 25)] ++ (s1 ++ s2), rfl, Tr.Own.mk (OwnSl.all rfl) (KidsOwn.two ho1 ho2), ((((((H.pull 3 rfl).drop.pull 3 rfl).drop.pull 3 rfl).drop).pull 2 rfl).pull 2 rfl |> fun H => (((H.pull 1 rfl).join).pull 1 rfl).join)⟩
    · skip
      refine JO.go (listed' := [true, false, true, false, false, false, false]) rfl rfl trivial (by first | exact RX.loadAgg H rfl (i := 1) (vs := tv kb nb pb mb cb) rfl rfl ag25 | exact RX.loadAgg H rfl (i := 2) (vs := tv kb nb pb mb cb) rfl rfl ag25) ?_
      refine JA.all [1] (by kernel_rfl) (by decide) ?_
      refine JO.does (listed' := [true, true, true, false, false, false, false]) rfl rfl trivial (EX.call rfl cl41 rfl ((copied_b a hpa _ _ _ _ H ha.cons.cons.cons))) ?_
      rintro _ w ⟨vs1, s1, rfl, ho1, H⟩
      obtain ⟨ka2, na2, pa2, ma2, ca2, rfl⟩ := ho1.shape
      refine JA.all [3] (by kernel_rfl) (by decide) ?_
      refine JO.does (listed' := [true, true, true, true, false, false, false]) rfl rfl trivial (EX.call rfl cl41 rfl ((copied_b b hpb _ _ _ _ H hb.cons.cons.cons.cons))) ?_
      rintro _ w ⟨vs2, s2, rfl, ho2, H⟩
      obtain ⟨kb2, nb2, pb2, mb2, cb2, rfl⟩ := ho2.shape
      refine JA.all [4] (by kernel_rfl) (by decide) ?_
      refine JO.does (listed' := [true, true, true, true, true, false, false]) rfl rfl trivial (EX.buildSlice (pv := [(0, .agg (tv ka2 na2 pa2 ma2 ca2).toArray), (1, .agg (tv kb2 nb2 pb2 mb2 cb2).toArray)]) (l := tv ka2 na2 pa2 ma2 ca2 ++ tv kb2 nb2 pb2 mb2 cb2) (e := 25) H rfl (by kernel_rfl)) ?_
      rintro _ w ⟨bb, rfl, H⟩
      refine JA.take 5 (listed' := [true, true, true, true, true, true, false]) rfl (by kernel_rfl) (by kernel_rfl) (by kernel_rfl) rfl trivial (fun w => RX.build (pv := [(0, .int .i64 3), (2, .slice (some ⟨bb, 0, none⟩) 2 2)]) (res := tv 3 0 (some ⟨bb, 0, none⟩) 2 2) rfl (by kernel_rfl)) ?_
      refine JA.all [6] (by kernel_rfl) (by decide) ?_
      refine JO.does (listed' := [true, true, true, true, true, true, true]) rfl rfl trivial (EX.storeAgg H rfl rfl (i := 3) (vs := tv 3 0 (some ⟨bb, 0, none⟩) 2 2) (l' := tv 3 0 (some ⟨bb, 0, none⟩) 2 2) rfl tv_cell (by simp) sz25 rfl rfl) ?_
      rintro _ w H
      refine JA.done (by kernel_rfl) ?_
      refine J.retc Tryd.func21 rfl H rfl (i := 3) (vs := tv 3 0 (some ⟨bb, 0, none⟩) 2 2) rfl rfl ag25 ?_
      exact ⟨_, rfl, _, [(bb, cel (tv ka2 na2 pa2 ma2 ca2 ++ tv kb2 nb2 pb2 mb2 cb2) 25)] ++ (s1 ++ s2), rfl, Tr.Own.mk (OwnSl.all rfl) (KidsOwn.two ho1 ho2), ((((((H.pull 3 rfl).drop.pull 3 rfl).drop.pull 3 rfl).drop).pull 2 rfl).pull 2 rfl |> fun H => (((H.pull 1 rfl).join).pull 1 rfl).join)⟩
  · skip
    refine JO.go (listed' := [false, false, true, false, false, false, false]) rfl rfl trivial (by first | exact RX.loadAgg H rfl (i := 1) (vs := tv kb nb pb mb cb) rfl rfl ag25 | exact RX.loadAgg H rfl (i := 2) (vs := tv kb nb pb mb cb) rfl rfl ag25) ?_
    refine JA.all [0] (by kernel_rfl) (by decide) ?_
    refine JO.go (listed' := [true, false, true, false, false, false, false]) rfl rfl trivial (RX.loadAgg H rfl (i := 2) (vs := tv ka na pa ma ca) rfl rfl ag25) ?_
    refine JA.all [1] (by kernel_rfl) (by decide) ?_
    refine JO.does (listed' := [true, true, true, false, false, false, false]) rfl rfl trivial (EX.call rfl cl41 rfl ((copied_b a hpa _ _ _ _ H ha.cons.cons.cons))) ?_
    rintro _ w ⟨vs1, s1, rfl, ho1, H⟩
    obtain ⟨ka2, na2, pa2, ma2, ca2, rfl⟩ := ho1.shape
    refine JA.all [3] (by kernel_rfl) (by decide) ?_
    refine JO.does (listed' := [true, true, true, true, false, false, false]) rfl rfl trivial (EX.call rfl cl41 rfl ((copied_b b hpb _ _ _ _ H hb.cons.cons.cons.cons))) ?_
    rintro _ w ⟨vs2, s2, rfl, ho2, H⟩
    obtain ⟨kb2, nb2, pb2, mb2, cb2, rfl⟩ := ho2.shape
    refine JA.all [4] (by kernel_rfl) (by decide) ?_
    refine JO.does (listed' := [true, true, true, true, true, false, false]) rfl rfl trivial (EX.buildSlice (pv := [(0, .agg (tv ka2 na2 pa2 ma2 ca2).toArray), (1, .agg (tv kb2 nb2 pb2 mb2 cb2).toArray)]) (l := tv ka2 na2 pa2 ma2 ca2 ++ tv kb2 nb2 pb2 mb2 cb2) (e := 25) H rfl (by kernel_rfl)) ?_
    rintro _ w ⟨bb, rfl, H⟩
    refine JA.take 5 (listed' := [true, true, true, true, true, true, false]) rfl (by kernel_rfl) (by kernel_rfl) (by kernel_rfl) rfl trivial (fun w => RX.build (pv := [(0, .int .i64 3), (2, .slice (some ⟨bb, 0, none⟩) 2 2)]) (res := tv 3 0 (some ⟨bb, 0, none⟩) 2 2) rfl (by kernel_rfl)) ?_
    refine JA.all [6] (by kernel_rfl) (by decide) ?_
    refine JO.does (listed' := [true, true, true, true, true, true, true]) rfl rfl trivial (EX.storeAgg H rfl rfl (i := 3) (vs := tv 3 0 (some ⟨bb, 0, none⟩) 2 2) (l' := tv 3 0 (some ⟨bb, 0, none⟩) 2 2) rfl tv_cell (by simp) sz25 rfl rfl) ?_
    rintro _ w H
    refine JA.done (by kernel_rfl) ?_
    refine J.retc Tryd.func21 rfl H rfl (i := 3) (vs := tv 3 0 (some ⟨bb, 0, none⟩) 2 2) rfl rfl ag25 ?_
    exact ⟨_, rfl, _, [(bb, cel (tv ka2 na2 pa2 ma2 ca2 ++ tv kb2 nb2 pb2 mb2 cb2) 25)] ++ (s1 ++ s2), rfl, Tr.Own.mk (OwnSl.all rfl) (KidsOwn.two ho1 ho2), ((((((H.pull 3 rfl).drop.pull 3 rfl).drop.pull 3 rfl).drop).pull 2 rfl).pull 2 rfl |> fun H => (((H.pull 1 rfl).join).pull 1 rfl).join)⟩
end Go.Proofs.YtinbeaaloailnaaDoor
