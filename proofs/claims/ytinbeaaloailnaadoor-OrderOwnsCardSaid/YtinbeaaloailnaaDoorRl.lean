/- The reference's depth and length. -/
import Derived.Test.YtinbeaaloailnaaDoorRq
namespace Go.Proofs.YtinbeaaloailnaaDoor
open Go Go.Eng
set_option maxRecDepth 100000
set_option linter.unusedVariables false
set_option linter.unusedSimpArgs false
theorem cl27 : callable Tryd.prog 27 = true := by kernel_rfl
theorem cl44 : callable Tryd.prog 44 = true := by kernel_rfl
theorem cl45 : callable Tryd.prog 45 = true := by kernel_rfl

def DeepC (t : Tr) : Prop := t.parts ≤ 4194304 → ∀ (w0 w : World) (F : List Seg) (vs : List Value) (m : Nat), m ≤ 1000 → Hp w0 w F → t.Is F vs →
  Ret Tryd.prog 44 [.agg vs.toArray, .int .i64 (m : Nat)] w fun v w' => v = .bool (decide (t.depth ≤ m)) ∧ Hp w0 w' F
def LengC (t : Tr) : Prop := t.parts ≤ 4194304 → ∀ (w0 w : World) (F : List Seg) (vs : List Value), Hp w0 w F → t.Is F vs →
  Ret Tryd.prog 45 [.agg vs.toArray] w fun v w' => v = .int .i64 (len t) ∧ Hp w0 w' F
theorem lenA {k n : Int} {ks : List Tr} (hk : k = 1) : len (.node k n ks) = if 1 ≤ n ∧ n ≤ 64 ∧ ks.length = 0 then n else 0 := by
  rw [len.eq_def]; dsimp only; rw [if_pos hk]
theorem lenB {k n : Int} {ks : List Tr} (hk : k = 2) : len (.node k n ks) = if 2 ≤ n ∧ n ≤ 5 ∧ ks.length = 0 then n else 0 := by
  rw [len.eq_def]; dsimp only; rw [if_neg (by omega), if_pos hk]
theorem lenC0 {k n : Int} {ks : List Tr} (hk : k = 3) (h : n ≠ 0 ∨ ks.length ≠ 2) : len (.node k n ks) = 0 := by
  rw [len.eq_def]; dsimp only; rw [if_neg (by omega), if_neg (by omega), if_pos hk]
  split
  · rw [if_neg (fun e => h.elim (fun h => h e) (fun h => h rfl))]
  · rfl
theorem lenCC {a b : Tr} : len (.node 3 0 [a, b]) = if 2 ≤ len a ∧ 2 ≤ len b ∧ len a ≤ (16384 : Int).tdiv (len b) then len a * len b else 0 := by
  rw [len.eq_def]; dsimp only; rw [if_neg (by decide), if_neg (by decide), if_pos rfl, if_pos rfl]
theorem lenD0 {k n : Int} {ks : List Tr} (hk : k = 4) (h : n < 2 ∨ 8192 < n ∨ ks.length ≠ 1) : len (.node k n ks) = 0 := by
  rw [len.eq_def]; dsimp only; rw [if_neg (by omega), if_neg (by omega), if_neg (by omega), if_pos hk]
  split
  · rw [if_neg (fun e => h.elim (fun h => by omega) (fun h => h.elim (fun h => by omega) (fun h => h rfl)))]
  · rfl
theorem lenD {a : Tr} {n : Int} (h1 : 2 ≤ n) (h2 : n ≤ 8192) : len (.node 4 n [a]) = if 2 * n - 1 ≤ len a then n else 0 := by
  rw [len.eq_def]; dsimp only; rw [if_neg (by decide), if_neg (by decide), if_neg (by decide), if_pos rfl, if_pos ⟨h1, h2⟩]
theorem lenE {k n : Int} {ks : List Tr} (h1 : ¬ k = 1) (h2 : ¬ k = 2) (h3 : ¬ k = 3) (h4 : ¬ k = 4) : len (.node k n ks) = 0 := by
  rw [len.eq_def]; dsimp only; rw [if_neg h1, if_neg h2, if_neg h3, if_neg h4]
theorem tdiv_ok {y : Int} (h : 2 ≤ y) : 0 ≤ (16384 : Int).tdiv y ∧ (16384 : Int).tdiv y ≤ 16384 := by
  rw [Int.tdiv_eq_ediv_of_nonneg (by decide)]
  exact ⟨Int.ediv_nonneg (by decide) (by omega), Int.ediv_le_self _ (by decide)⟩
def c8 (t : Tr) : Nat := if lenO t = 0 then 8 else 0

theorem deep_step {k n : Int} {ks : List Tr} (ih : ∀ t, t.parts < (Tr.node k n ks).parts → DeepC t) (hp : (Tr.node k n ks).parts ≤ 4194304) {w0 w : World} {F : List Seg} {p : Option Addr} {c m : Nat} {xs : List Value} (hm : m ≤ 1000) (H : Hp w0 w F) (hs : SlAt F p xs) (hk : KidsIs F ks xs) : Ret Tryd.prog 44 [.agg (tv k n p ks.length c).toArray, .int .i64 (m : Nat)] w fun v w' => v = .bool (decide ((Tr.node k n ks).depth ≤ m)) ∧ Hp w0 w' F := by
  refine Calls.of_J (n := 24) Tryd.func44 rfl rfl rfl ?_
  refine J.seq ?_
  have hkl := partsL_len ks
  have hpp : (Tr.node k n ks).parts = 1 + partsL ks := by rw [Tr.parts]
  have hdd : (Tr.node k n ks).depth = depthL ks + 1 := by rw [Tr.depth]
  have hd1 := depth_pos (.node k n ks)
  refine J.region ?_
  refine JL.does trivial (EX.box (v := Value.agg _) H rfl rfl) ?_
  rintro _ w ⟨b2, rfl, H⟩
  refine JL.go trivial (RX.assign) ?_
  refine JL.nil ?_
  refine J.seq ?_
  refine J.seq ?_
  refine J.region ?_
  refine JL.go trivial (RX.movev (v := Value.int _ _) rfl) ?_
  refine JL.go trivial (RX.lt rfl rfl) ?_
  refine JL.nil ?_
  refine J.cond_d rfl (fun h1 => ?_) (fun h1 => ?_)
  · skip
    refine J.seq ?_
    refine J.region ?_
    refine JL.go trivial (RX.assign) ?_
    refine JL.nil ?_
    refine J.ret1 (v := Value.bool _) Tryd.func44 rfl rfl ?_
    exact ⟨_, rfl, by rw [decide_eq_false (by omega)], H.drop⟩
  · skip
    refine J.skip ?_
    refine J.seq ?_
    refine J.seq ?_
    refine J.region ?_
    refine JL.go trivial (RX.fieldAddr rfl fo25_2 rfl) ?_
    refine JL.go trivial (RX.load H rfl (i := 0) (v := .slice p ks.length c) rfl rfl one23) ?_
    refine JL.go trivial (RX.len_slice rfl (by rw [sl23]; rfl) rfl) ?_
    refine JL.go trivial (RX.move) ?_
    refine JL.nil ?_
    refine J.block ?_
    refine J.loop (ι := Nat) (S := fun i => [(13, .int .i64 (i : Nat))]) (Φ := fun i w => i ≤ ks.length ∧ depthT ks i + 1 ≤ m ∧ Hp w0 w ([(b2, cel (tv k n p ks.length c) 25)] :: F)) (μ := fun i => ks.length - i) (C := [(1, _), (11, _), (12, _)]) 0 ⟨rfl, rfl, rfl, trivial⟩ ⟨rfl, trivial⟩ ?_ ?_
    · exact ⟨by omega, by simp [depthT, depthL]; omega, H⟩
    clear H
    rintro i ρ w ⟨hi, hz, H⟩ IH
    refine J.seq ?_
    refine J.region ?_
    refine JL.go trivial (RX.lt rfl rfl) ?_
    refine JL.nil ?_
    refine J.seq ?_
    refine J.cond_d rfl (fun hlt => ?_) (fun hlt => ?_)
    · skip
      obtain ⟨t1, ht1⟩ : ∃ t1, ks[i]? = some t1 := ⟨_, List.getElem?_eq_getElem (by omega)⟩
      obtain ⟨a1, ha1, hi1⟩ := hk.get ht1
      obtain ⟨k1, n1, p1, m1, c1, rfl⟩ := hi1.shape
      have hxl := hk.len
      obtain ⟨pb, po, rfl⟩ := spot_some hs (by omega)
      have hps := depthT_succ ht1
      have hdg := depthL_get ht1
      refine J.skip ?_
      refine J.seq ?_
      refine J.block ?_
      refine J.seq ?_
      refine J.region ?_
      refine JL.go trivial (RX.indexAddr rfl rfl sl23 (by omega) (by omega) (o' := po + i * 3) (by omega)) ?_
      refine JL.go trivial (RX.loadAggS H hs.cons rfl (j := i * 3) (by omega) (vs := tv k1 n1 p1 m1 c1) ha1 ag25) ?_
      refine JL.does trivial (EX.alloc H zr25 rfl) ?_
      rintro _ w ⟨b7, rfl, H⟩
      refine JL.does trivial (EX.storeAgg H rfl rfl (i := 0) (vs := tv k1 n1 p1 m1 c1) (l' := tv k1 n1 p1 m1 c1) rfl tv_cell (by simp) sz25 rfl rfl) ?_
      rintro _ w H
      refine JL.nil ?_
      refine J.seq ?_
      refine J.region ?_
      refine JL.go trivial (RX.loadAgg H rfl (i := 0) (vs := tv k1 n1 p1 m1 c1) rfl rfl ag25) ?_
      refine JL.go trivial (RX.movev (v := Value.int _ _) rfl) ?_
      refine JL.go trivial (RX.sub rfl rfl (w_i64 (r := ((m - 1 : Nat) : Int)) (by omega) (by omega) (by omega))) ?_
      refine JL.does trivial (EX.call rfl cl44 rfl ((ih t1 (kid_lt ht1) (by have := kid_lt (k := k) (n := n) ht1; omega) _ _ _ _ (m - 1) (by omega) H hi1.cons.cons))) ?_
      rintro _ w ⟨rfl, H⟩
      refine JL.go trivial (RX.assignv (v := Value.bool _) rfl) ?_
      refine JL.nil ?_
      refine J.seq ?_
      refine J.region ?_
      refine JL.go trivial (RX.movev (v := Value.bool _) rfl) ?_
      refine JL.go trivial (RX.not rfl) ?_
      refine JL.nil ?_
      refine J.cond rfl (fun hno => ?_) (fun hno => ?_)
      · skip
        have hdk : ¬ t1.depth ≤ m - 1 := by simpa using hno
        refine J.seq ?_
        refine J.region ?_
        refine JL.go trivial (RX.assign) ?_
        refine JL.nil ?_
        refine J.ret1 (v := Value.bool _) Tryd.func44 rfl rfl ?_
        exact ⟨_, rfl, by rw [decide_eq_false (by omega)], H.drop.drop⟩
      · skip
        have hdk : t1.depth ≤ m - 1 := by simpa using hno
        refine J.skip ?_
        refine J.inBlock ?_
        refine J.region ?_
        refine JL.go trivial (RX.add rfl rfl (w_i64 (r := ((i + 1 : Nat) : Int)) (by omega) (by omega) (by omega))) ?_
        refine JL.go trivial (RX.movev (v := Value.int _ _) rfl) ?_
        refine JL.nil ?_
        exact IH (i + 1) _ _ (by omega) ⟨rfl, rfl, rfl, trivial⟩ ⟨rfl, trivial⟩ ⟨by omega, by omega, H.drop⟩
    · skip
      have hil : i = ks.length := by omega
      subst hil
      rw [depthT_full] at hz
      refine J.exit rfl ?_
      refine J.seq ?_
      refine J.region ?_
      refine JL.go trivial (RX.assign) ?_
      refine JL.nil ?_
      refine J.ret1 (v := Value.bool _) Tryd.func44 rfl rfl ?_
      exact ⟨_, rfl, by rw [decide_eq_true (by omega)], H.drop⟩
theorem deep_b : ∀ t, DeepC t := tr_ind fun t ih hp w0 w F vs m hm H ht => by
  obtain ⟨k, n, ks⟩ := t
  rw [Tr.Is] at ht
  obtain ⟨p, c, xs, rfl, hs, hk⟩ := ht
  exact deep_step ih hp hm H hs hk
set_option maxHeartbeats 800000 in
theorem leng_step {k n : Int} {ks : List Tr} (ih : ∀ t, t.parts < (Tr.node k n ks).parts → LengC t) (hp : (Tr.node k n ks).parts ≤ 4194304) {w0 w : World} {F : List Seg} {p : Option Addr} {c : Nat} {xs : List Value} (H : Hp w0 w F) (hs : SlAt F p xs) (hk : KidsIs F ks xs) : Ret Tryd.prog 45 [.agg (tv k n p ks.length c).toArray] w fun v w' => v = .int .i64 (len (.node k n ks)) ∧ Hp w0 w' F := by
  refine Calls.of_J (n := 109) Tryd.func45 rfl rfl rfl ?_
  refine J.seq ?_
  have hkl := partsL_len ks
  have hpp : (Tr.node k n ks).parts = 1 + partsL ks := by rw [Tr.parts]
  refine J.region ?_
  refine JL.does trivial (EX.box (v := Value.agg _) H rfl rfl) ?_
  rintro _ w ⟨b1, rfl, H⟩
  refine JL.go trivial (RX.assign) ?_
  refine JL.nil ?_
  refine J.seq ?_
  refine J.seq ?_
  refine J.region ?_
  refine JL.go trivial (RX.fieldAddr rfl fo25_0 rfl) ?_
  refine JL.go trivial (RX.load H rfl (i := 0) (v := .int .i64 k) rfl rfl one3) ?_
  refine JL.nil ?_
  refine J.block ?_
  refine J.seq ?_
  refine J.region ?_
  refine JL.go trivial (RX.eq rfl rfl) ?_
  refine JL.go trivial (RX.assignv (v := Value.bool _) rfl) ?_
  refine JL.nil ?_
  refine J.cond_d rfl (fun hk1 => ?_) (fun hk1 => ?_)
  · skip
    refine J.seq ?_
    refine J.join (ι := Bool) (fun q => [(23, .bool q)]) (fun q w => q = decide (1 ≤ n ∧ n ≤ 64 ∧ ks.length = 0) ∧ Hp w0 w ([(b1, cel (tv k n p ks.length c) 25)] :: F)) [(1, _)] ⟨rfl, trivial⟩ ?_ ?_
    rotate_left
    · skip
      intro k2 hk2
      refine J.region ?_
      refine JL.go trivial (RX.fieldAddr rfl fo25_1 rfl) ?_
      refine JL.go trivial (RX.load H rfl (i := 0) (v := .int .i64 n) rfl rfl one3) ?_
      refine JL.go trivial (RX.ge rfl rfl) ?_
      refine JL.go trivial (RX.movev (v := Value.bool _) rfl) ?_
      refine JL.splitS 13 rfl (fun h2 => ?_) (fun h2 => ?_)
      · skip
        first | have h2p := of_decide_eq_true h2 | skip
        refine JL.go ⟨_, rfl, h2⟩ (RX.fieldAddr rfl fo25_1 rfl) ?_
        refine JL.go ⟨_, rfl, h2⟩ (RX.load H rfl (i := 0) (v := .int .i64 n) rfl rfl one3) ?_
        refine JL.go ⟨_, rfl, h2⟩ (RX.le rfl rfl) ?_
        refine JL.go trivial (RX.pick_t rfl h2) ?_
        refine JL.go trivial (RX.movev (v := Value.bool _) rfl) ?_
        refine JL.splitS 18 rfl (fun h3 => ?_) (fun h3 => ?_)
        · skip
          first | have h3p := of_decide_eq_true h3 | skip
          refine JL.go ⟨_, rfl, h3⟩ (RX.fieldAddr rfl fo25_2 rfl) ?_
          refine JL.go ⟨_, rfl, h3⟩ (RX.load H rfl (i := 0) (v := .slice p ks.length c) rfl rfl one23) ?_
          refine JL.go ⟨_, rfl, h3⟩ (RX.len_slice rfl (by rw [sl23]; rfl) rfl) ?_
          refine JL.go ⟨_, rfl, h3⟩ (RX.eq rfl rfl) ?_
          refine JL.go trivial (RX.pick_t rfl h3) ?_
          refine JL.nil ?_
          first
          | exact hk2 false _ _ ⟨rfl, trivial⟩ ⟨rfl, trivial⟩ ⟨(decide_eq_false (by omega)).symm, H⟩
          | exact hk2 true _ _ ⟨rfl, trivial⟩ ⟨rfl, trivial⟩ ⟨(decide_eq_true (by omega)).symm, H⟩
          | exact hk2 _ _ _ ⟨rfl, trivial⟩ ⟨rfl, trivial⟩ ⟨by congr 1; rw [eq_iff_iff]; omega, H⟩
        · skip
          first | have h3p := of_decide_eq_false h3 | skip
          refine JL.no ⟨_, rfl, gno h3⟩ ?_
          refine JL.no ⟨_, rfl, gno h3⟩ ?_
          refine JL.no ⟨_, rfl, gno h3⟩ ?_
          refine JL.no ⟨_, rfl, gno h3⟩ ?_
          refine JL.go trivial (RX.pick_f rfl h3) ?_
          refine JL.nil ?_
          first
          | exact hk2 false _ _ ⟨rfl, trivial⟩ ⟨rfl, trivial⟩ ⟨(decide_eq_false (by omega)).symm, H⟩
          | exact hk2 true _ _ ⟨rfl, trivial⟩ ⟨rfl, trivial⟩ ⟨(decide_eq_true (by omega)).symm, H⟩
          | exact hk2 _ _ _ ⟨rfl, trivial⟩ ⟨rfl, trivial⟩ ⟨by congr 1; rw [eq_iff_iff]; omega, H⟩
      · skip
        first | have h2p := of_decide_eq_false h2 | skip
        refine JL.no ⟨_, rfl, gno h2⟩ ?_
        refine JL.no ⟨_, rfl, gno h2⟩ ?_
        refine JL.no ⟨_, rfl, gno h2⟩ ?_
        refine JL.go trivial (RX.pick_f rfl h2) ?_
        refine JL.go trivial (RX.movev (v := Value.bool _) rfl) ?_
        refine JL.no ⟨_, rfl, gno rfl⟩ ?_
        refine JL.no ⟨_, rfl, gno rfl⟩ ?_
        refine JL.no ⟨_, rfl, gno rfl⟩ ?_
        refine JL.no ⟨_, rfl, gno rfl⟩ ?_
        refine JL.go trivial (RX.pick_f rfl rfl) ?_
        refine JL.nil ?_
        first
        | exact hk2 false _ _ ⟨rfl, trivial⟩ ⟨rfl, trivial⟩ ⟨(decide_eq_false (by omega)).symm, H⟩
        | exact hk2 true _ _ ⟨rfl, trivial⟩ ⟨rfl, trivial⟩ ⟨(decide_eq_true (by omega)).symm, H⟩
        | exact hk2 _ _ _ ⟨rfl, trivial⟩ ⟨rfl, trivial⟩ ⟨by congr 1; rw [eq_iff_iff]; omega, H⟩
    · skip
      clear H
      rintro q ρ w ⟨hq3, H⟩
      refine J.cond rfl (fun hb23 => ?_) (fun hb23 => ?_)
      · skip
        have hc1 := of_decide_eq_true (hq3.symm.trans hb23)
        refine J.seq ?_
        refine J.region ?_
        refine JL.go trivial (RX.fieldAddr rfl fo25_1 rfl) ?_
        refine JL.go trivial (RX.load H rfl (i := 0) (v := .int .i64 n) rfl rfl one3) ?_
        refine JL.go trivial (RX.assignv (v := Value.int _ _) rfl) ?_
        refine JL.nil ?_
        refine J.ret1 (v := Value.int _ _) Tryd.func45 rfl rfl ?_
        first
        | (rw [lenA (by omega), if_pos hc1]; exact ⟨_, rfl, rfl, H.drop⟩)
        | (rw [lenA (by omega), if_neg hn1]; exact ⟨_, rfl, rfl, H.drop⟩)
        | (rw [lenB (by omega), if_pos hc2]; exact ⟨_, rfl, rfl, H.drop⟩)
        | (rw [lenB (by omega), if_neg hn2]; exact ⟨_, rfl, rfl, H.drop⟩)
        | (rw [lenC0 (by omega) hc3]; exact ⟨_, rfl, rfl, H.drop⟩)
        | (obtain rfl : k = 3 := by omega
           rw [lenCC, if_pos hc5]; exact ⟨_, rfl, rfl, H.drop⟩)
        | (obtain rfl : k = 3 := by omega
           rw [lenCC, if_neg hn5]; exact ⟨_, rfl, rfl, H.drop⟩)
        | (rw [lenD0 (by omega) hc4]; exact ⟨_, rfl, rfl, H.drop⟩)
        | (obtain rfl : k = 4 := by omega
           rw [lenD (by omega) (by omega), if_pos (by omega)]; exact ⟨_, rfl, rfl, H.drop⟩)
        | (obtain rfl : k = 4 := by omega
           rw [lenD (by omega) (by omega), if_neg (by omega)]; exact ⟨_, rfl, rfl, H.drop⟩)
        | (rw [lenE (by omega) (by omega) (by omega) (by omega)]; exact ⟨_, rfl, rfl, H.drop⟩)
      · skip
        have hn1 := of_decide_eq_false (hq3.symm.trans hb23)
        refine J.skip ?_
        refine J.inBlock ?_
        refine J.seq ?_
        refine J.region ?_
        refine JL.go trivial (RX.assign) ?_
        refine JL.nil ?_
        refine J.ret1 (v := Value.int _ _) Tryd.func45 rfl rfl ?_
        first
        | (rw [lenA (by omega), if_pos hc1]; exact ⟨_, rfl, rfl, H.drop⟩)
        | (rw [lenA (by omega), if_neg hn1]; exact ⟨_, rfl, rfl, H.drop⟩)
        | (rw [lenB (by omega), if_pos hc2]; exact ⟨_, rfl, rfl, H.drop⟩)
        | (rw [lenB (by omega), if_neg hn2]; exact ⟨_, rfl, rfl, H.drop⟩)
        | (rw [lenC0 (by omega) hc3]; exact ⟨_, rfl, rfl, H.drop⟩)
        | (obtain rfl : k = 3 := by omega
           rw [lenCC, if_pos hc5]; exact ⟨_, rfl, rfl, H.drop⟩)
        | (obtain rfl : k = 3 := by omega
           rw [lenCC, if_neg hn5]; exact ⟨_, rfl, rfl, H.drop⟩)
        | (rw [lenD0 (by omega) hc4]; exact ⟨_, rfl, rfl, H.drop⟩)
        | (obtain rfl : k = 4 := by omega
           rw [lenD (by omega) (by omega), if_pos (by omega)]; exact ⟨_, rfl, rfl, H.drop⟩)
        | (obtain rfl : k = 4 := by omega
           rw [lenD (by omega) (by omega), if_neg (by omega)]; exact ⟨_, rfl, rfl, H.drop⟩)
        | (rw [lenE (by omega) (by omega) (by omega) (by omega)]; exact ⟨_, rfl, rfl, H.drop⟩)
  · skip
    refine J.seq ?_
    refine J.region ?_
    refine JL.go trivial (RX.eq rfl rfl) ?_
    refine JL.go trivial (RX.assignv (v := Value.bool _) rfl) ?_
    refine JL.nil ?_
    refine J.cond_d rfl (fun hk2 => ?_) (fun hk2 => ?_)
    · skip
      refine J.seq ?_
      refine J.join (ι := Bool) (fun q => [(41, .bool q)]) (fun q w => q = decide (2 ≤ n ∧ n ≤ 5 ∧ ks.length = 0) ∧ Hp w0 w ([(b1, cel (tv k n p ks.length c) 25)] :: F)) [(1, _)] ⟨rfl, trivial⟩ ?_ ?_
      rotate_left
      · skip
        intro k2 hk2
        refine J.region ?_
        refine JL.go trivial (RX.fieldAddr rfl fo25_1 rfl) ?_
        refine JL.go trivial (RX.load H rfl (i := 0) (v := .int .i64 n) rfl rfl one3) ?_
        refine JL.go trivial (RX.ge rfl rfl) ?_
        refine JL.go trivial (RX.movev (v := Value.bool _) rfl) ?_
        refine JL.splitS 31 rfl (fun h6 => ?_) (fun h6 => ?_)
        · skip
          first | have h6p := of_decide_eq_true h6 | skip
          refine JL.go ⟨_, rfl, h6⟩ (RX.fieldAddr rfl fo25_1 rfl) ?_
          refine JL.go ⟨_, rfl, h6⟩ (RX.load H rfl (i := 0) (v := .int .i64 n) rfl rfl one3) ?_
          refine JL.go ⟨_, rfl, h6⟩ (RX.le rfl rfl) ?_
          refine JL.go trivial (RX.pick_t rfl h6) ?_
          refine JL.go trivial (RX.movev (v := Value.bool _) rfl) ?_
          refine JL.splitS 36 rfl (fun h7 => ?_) (fun h7 => ?_)
          · skip
            first | have h7p := of_decide_eq_true h7 | skip
            refine JL.go ⟨_, rfl, h7⟩ (RX.fieldAddr rfl fo25_2 rfl) ?_
            refine JL.go ⟨_, rfl, h7⟩ (RX.load H rfl (i := 0) (v := .slice p ks.length c) rfl rfl one23) ?_
            refine JL.go ⟨_, rfl, h7⟩ (RX.len_slice rfl (by rw [sl23]; rfl) rfl) ?_
            refine JL.go ⟨_, rfl, h7⟩ (RX.eq rfl rfl) ?_
            refine JL.go trivial (RX.pick_t rfl h7) ?_
            refine JL.nil ?_
            first
            | exact hk2 false _ _ ⟨rfl, trivial⟩ ⟨rfl, trivial⟩ ⟨(decide_eq_false (by omega)).symm, H⟩
            | exact hk2 true _ _ ⟨rfl, trivial⟩ ⟨rfl, trivial⟩ ⟨(decide_eq_true (by omega)).symm, H⟩
            | exact hk2 _ _ _ ⟨rfl, trivial⟩ ⟨rfl, trivial⟩ ⟨by congr 1; rw [eq_iff_iff]; omega, H⟩
          · skip
            first | have h7p := of_decide_eq_false h7 | skip
            refine JL.no ⟨_, rfl, gno h7⟩ ?_
            refine JL.no ⟨_, rfl, gno h7⟩ ?_
            refine JL.no ⟨_, rfl, gno h7⟩ ?_
            refine JL.no ⟨_, rfl, gno h7⟩ ?_
            refine JL.go trivial (RX.pick_f rfl h7) ?_
            refine JL.nil ?_
            first
            | exact hk2 false _ _ ⟨rfl, trivial⟩ ⟨rfl, trivial⟩ ⟨(decide_eq_false (by omega)).symm, H⟩
            | exact hk2 true _ _ ⟨rfl, trivial⟩ ⟨rfl, trivial⟩ ⟨(decide_eq_true (by omega)).symm, H⟩
            | exact hk2 _ _ _ ⟨rfl, trivial⟩ ⟨rfl, trivial⟩ ⟨by congr 1; rw [eq_iff_iff]; omega, H⟩
        · skip
          first | have h6p := of_decide_eq_false h6 | skip
          refine JL.no ⟨_, rfl, gno h6⟩ ?_
          refine JL.no ⟨_, rfl, gno h6⟩ ?_
          refine JL.no ⟨_, rfl, gno h6⟩ ?_
          refine JL.go trivial (RX.pick_f rfl h6) ?_
          refine JL.go trivial (RX.movev (v := Value.bool _) rfl) ?_
          refine JL.no ⟨_, rfl, gno rfl⟩ ?_
          refine JL.no ⟨_, rfl, gno rfl⟩ ?_
          refine JL.no ⟨_, rfl, gno rfl⟩ ?_
          refine JL.no ⟨_, rfl, gno rfl⟩ ?_
          refine JL.go trivial (RX.pick_f rfl rfl) ?_
          refine JL.nil ?_
          first
          | exact hk2 false _ _ ⟨rfl, trivial⟩ ⟨rfl, trivial⟩ ⟨(decide_eq_false (by omega)).symm, H⟩
          | exact hk2 true _ _ ⟨rfl, trivial⟩ ⟨rfl, trivial⟩ ⟨(decide_eq_true (by omega)).symm, H⟩
          | exact hk2 _ _ _ ⟨rfl, trivial⟩ ⟨rfl, trivial⟩ ⟨by congr 1; rw [eq_iff_iff]; omega, H⟩
      · skip
        clear H
        rintro q ρ w ⟨hq6, H⟩
        refine J.cond rfl (fun hb41 => ?_) (fun hb41 => ?_)
        · skip
          have hc2 := of_decide_eq_true (hq6.symm.trans hb41)
          refine J.seq ?_
          refine J.region ?_
          refine JL.go trivial (RX.fieldAddr rfl fo25_1 rfl) ?_
          refine JL.go trivial (RX.load H rfl (i := 0) (v := .int .i64 n) rfl rfl one3) ?_
          refine JL.go trivial (RX.assignv (v := Value.int _ _) rfl) ?_
          refine JL.nil ?_
          refine J.ret1 (v := Value.int _ _) Tryd.func45 rfl rfl ?_
          first
          | (rw [lenA (by omega), if_pos hc1]; exact ⟨_, rfl, rfl, H.drop⟩)
          | (rw [lenA (by omega), if_neg hn1]; exact ⟨_, rfl, rfl, H.drop⟩)
          | (rw [lenB (by omega), if_pos hc2]; exact ⟨_, rfl, rfl, H.drop⟩)
          | (rw [lenB (by omega), if_neg hn2]; exact ⟨_, rfl, rfl, H.drop⟩)
          | (rw [lenC0 (by omega) hc3]; exact ⟨_, rfl, rfl, H.drop⟩)
          | (obtain rfl : k = 3 := by omega
             rw [lenCC, if_pos hc5]; exact ⟨_, rfl, rfl, H.drop⟩)
          | (obtain rfl : k = 3 := by omega
             rw [lenCC, if_neg hn5]; exact ⟨_, rfl, rfl, H.drop⟩)
          | (rw [lenD0 (by omega) hc4]; exact ⟨_, rfl, rfl, H.drop⟩)
          | (obtain rfl : k = 4 := by omega
             rw [lenD (by omega) (by omega), if_pos (by omega)]; exact ⟨_, rfl, rfl, H.drop⟩)
          | (obtain rfl : k = 4 := by omega
             rw [lenD (by omega) (by omega), if_neg (by omega)]; exact ⟨_, rfl, rfl, H.drop⟩)
          | (rw [lenE (by omega) (by omega) (by omega) (by omega)]; exact ⟨_, rfl, rfl, H.drop⟩)
        · skip
          have hn2 := of_decide_eq_false (hq6.symm.trans hb41)
          refine J.skip ?_
          refine J.inBlock ?_
          refine J.seq ?_
          refine J.region ?_
          refine JL.go trivial (RX.assign) ?_
          refine JL.nil ?_
          refine J.ret1 (v := Value.int _ _) Tryd.func45 rfl rfl ?_
          first
          | (rw [lenA (by omega), if_pos hc1]; exact ⟨_, rfl, rfl, H.drop⟩)
          | (rw [lenA (by omega), if_neg hn1]; exact ⟨_, rfl, rfl, H.drop⟩)
          | (rw [lenB (by omega), if_pos hc2]; exact ⟨_, rfl, rfl, H.drop⟩)
          | (rw [lenB (by omega), if_neg hn2]; exact ⟨_, rfl, rfl, H.drop⟩)
          | (rw [lenC0 (by omega) hc3]; exact ⟨_, rfl, rfl, H.drop⟩)
          | (obtain rfl : k = 3 := by omega
             rw [lenCC, if_pos hc5]; exact ⟨_, rfl, rfl, H.drop⟩)
          | (obtain rfl : k = 3 := by omega
             rw [lenCC, if_neg hn5]; exact ⟨_, rfl, rfl, H.drop⟩)
          | (rw [lenD0 (by omega) hc4]; exact ⟨_, rfl, rfl, H.drop⟩)
          | (obtain rfl : k = 4 := by omega
             rw [lenD (by omega) (by omega), if_pos (by omega)]; exact ⟨_, rfl, rfl, H.drop⟩)
          | (obtain rfl : k = 4 := by omega
             rw [lenD (by omega) (by omega), if_neg (by omega)]; exact ⟨_, rfl, rfl, H.drop⟩)
          | (rw [lenE (by omega) (by omega) (by omega) (by omega)]; exact ⟨_, rfl, rfl, H.drop⟩)
    · skip
      refine J.seq ?_
      refine J.region ?_
      refine JL.go trivial (RX.eq rfl rfl) ?_
      refine JL.go trivial (RX.assignv (v := Value.bool _) rfl) ?_
      refine JL.nil ?_
      refine J.cond_d rfl (fun hk3 => ?_) (fun hk3 => ?_)
      · skip
        refine J.seq ?_
        refine J.seq ?_
        refine J.join (ι := Bool) (fun q => [(54, .bool q)]) (fun q w => q = decide (n ≠ 0 ∨ ks.length ≠ 2) ∧ Hp w0 w ([(b1, cel (tv k n p ks.length c) 25)] :: F)) [(1, _)] ⟨rfl, trivial⟩ ?_ ?_
        rotate_left
        · skip
          intro k2 hk2
          refine J.region ?_
          refine JL.go trivial (RX.fieldAddr rfl fo25_1 rfl) ?_
          refine JL.go trivial (RX.load H rfl (i := 0) (v := .int .i64 n) rfl rfl one3) ?_
          refine JL.go trivial (RX.ne rfl rfl) ?_
          refine JL.go trivial (RX.movev (v := Value.bool _) rfl) ?_
          refine JL.splitS 49 rfl (fun h10 => ?_) (fun h10 => ?_)
          · skip
            first | have h10p := of_decide_eq_true h10 | skip
            refine JL.no ⟨_, rfl, gno h10⟩ ?_
            refine JL.no ⟨_, rfl, gno h10⟩ ?_
            refine JL.no ⟨_, rfl, gno h10⟩ ?_
            refine JL.no ⟨_, rfl, gno h10⟩ ?_
            refine JL.go trivial (RX.pick_t rfl h10) ?_
            refine JL.nil ?_
            first
            | exact hk2 false _ _ ⟨rfl, trivial⟩ ⟨rfl, trivial⟩ ⟨(decide_eq_false (by omega)).symm, H⟩
            | exact hk2 true _ _ ⟨rfl, trivial⟩ ⟨rfl, trivial⟩ ⟨(decide_eq_true (by omega)).symm, H⟩
            | exact hk2 _ _ _ ⟨rfl, trivial⟩ ⟨rfl, trivial⟩ ⟨by congr 1; rw [eq_iff_iff]; omega, H⟩
          · skip
            first | have h10p := of_decide_eq_false h10 | skip
            refine JL.go ⟨_, rfl, h10⟩ (RX.fieldAddr rfl fo25_2 rfl) ?_
            refine JL.go ⟨_, rfl, h10⟩ (RX.load H rfl (i := 0) (v := .slice p ks.length c) rfl rfl one23) ?_
            refine JL.go ⟨_, rfl, h10⟩ (RX.len_slice rfl (by rw [sl23]; rfl) rfl) ?_
            refine JL.go ⟨_, rfl, h10⟩ (RX.ne rfl rfl) ?_
            refine JL.go trivial (RX.pick_f rfl h10) ?_
            refine JL.nil ?_
            first
            | exact hk2 false _ _ ⟨rfl, trivial⟩ ⟨rfl, trivial⟩ ⟨(decide_eq_false (by omega)).symm, H⟩
            | exact hk2 true _ _ ⟨rfl, trivial⟩ ⟨rfl, trivial⟩ ⟨(decide_eq_true (by omega)).symm, H⟩
            | exact hk2 _ _ _ ⟨rfl, trivial⟩ ⟨rfl, trivial⟩ ⟨by congr 1; rw [eq_iff_iff]; omega, H⟩
        · skip
          clear H
          rintro q ρ w ⟨hq9, H⟩
          refine J.cond rfl (fun hb54 => ?_) (fun hb54 => ?_)
          · skip
            have hc3 := of_decide_eq_true (hq9.symm.trans hb54)
            refine J.seq ?_
            refine J.region ?_
            refine JL.go trivial (RX.assign) ?_
            refine JL.nil ?_
            refine J.ret1 (v := Value.int _ _) Tryd.func45 rfl rfl ?_
            first
            | (rw [lenA (by omega), if_pos hc1]; exact ⟨_, rfl, rfl, H.drop⟩)
            | (rw [lenA (by omega), if_neg hn1]; exact ⟨_, rfl, rfl, H.drop⟩)
            | (rw [lenB (by omega), if_pos hc2]; exact ⟨_, rfl, rfl, H.drop⟩)
            | (rw [lenB (by omega), if_neg hn2]; exact ⟨_, rfl, rfl, H.drop⟩)
            | (rw [lenC0 (by omega) hc3]; exact ⟨_, rfl, rfl, H.drop⟩)
            | (obtain rfl : k = 3 := by omega
               rw [lenCC, if_pos hc5]; exact ⟨_, rfl, rfl, H.drop⟩)
            | (obtain rfl : k = 3 := by omega
               rw [lenCC, if_neg hn5]; exact ⟨_, rfl, rfl, H.drop⟩)
            | (rw [lenD0 (by omega) hc4]; exact ⟨_, rfl, rfl, H.drop⟩)
            | (obtain rfl : k = 4 := by omega
               rw [lenD (by omega) (by omega), if_pos (by omega)]; exact ⟨_, rfl, rfl, H.drop⟩)
            | (obtain rfl : k = 4 := by omega
               rw [lenD (by omega) (by omega), if_neg (by omega)]; exact ⟨_, rfl, rfl, H.drop⟩)
            | (rw [lenE (by omega) (by omega) (by omega) (by omega)]; exact ⟨_, rfl, rfl, H.drop⟩)
          · skip
            have hn3 := of_decide_eq_false (hq9.symm.trans hb54)
            obtain rfl : n = 0 := by omega
            have hl2 : ks.length = 2 := by omega
            obtain ⟨a, b, rfl⟩ := two_of hl2
            obtain ⟨va, hva, hia⟩ := hk.get (i := 0) (t := a) rfl
            obtain ⟨vb, hvb, hib⟩ := hk.get (i := 1) (t := b) rfl
            have hpa := kid_lt (k := k) (n := 0) (ks := [a, b]) (i := 0) (t := a) rfl
            have hpb := kid_lt (k := k) (n := 0) (ks := [a, b]) (i := 1) (t := b) rfl
            have hxl := hk.len
            have hl2 : [a, b].length = 2 := rfl
            obtain ⟨pb, po, rfl⟩ := spot_some hs (by omega)
            have hra := len_range _ a (Nat.le_refl _)
            have hrb := len_range _ b (Nat.le_refl _)
            refine J.skip ?_
            refine J.seq ?_
            refine J.region ?_
            refine JL.go trivial (RX.fieldAddr rfl fo25_2 rfl) ?_
            refine JL.go trivial (RX.load H rfl (i := 0) (v := .slice (some ⟨pb, po, none⟩) [a, b].length c) rfl rfl one23) ?_
            refine JL.go trivial (RX.indexAddr rfl rfl sl23 (by omega) (by omega) (o' := po + 0 * 3) (by omega)) ?_
            refine JL.go trivial (RX.loadAggS H hs.cons rfl (j := 0 * 3) (by omega) (vs := va) hva ag25) ?_
            refine JL.does trivial (EX.call rfl cl45 rfl ((ih a hpa (by omega) _ _ _ _ H hia.cons))) ?_
            rintro _ w ⟨rfl, H⟩
            refine JL.go trivial (RX.assignv (v := Value.int _ _) rfl) ?_
            refine JL.nil ?_
            refine J.seq ?_
            refine J.region ?_
            refine JL.go trivial (RX.fieldAddr rfl fo25_2 rfl) ?_
            refine JL.go trivial (RX.load H rfl (i := 0) (v := .slice (some ⟨pb, po, none⟩) [a, b].length c) rfl rfl one23) ?_
            refine JL.go trivial (RX.indexAddr rfl rfl sl23 (by omega) (by omega) (o' := po + 1 * 3) (by omega)) ?_
            refine JL.go trivial (RX.loadAggS H hs.cons rfl (j := 1 * 3) (by omega) (vs := vb) hvb ag25) ?_
            refine JL.does trivial (EX.call rfl cl45 rfl ((ih b hpb (by omega) _ _ _ _ H hib.cons))) ?_
            rintro _ w ⟨rfl, H⟩
            refine JL.go trivial (RX.assignv (v := Value.int _ _) rfl) ?_
            refine JL.nil ?_
            refine J.seq ?_
            refine J.join (ι := Bool) (fun q => [(76, .bool q)]) (fun q w => q = decide (2 ≤ len a ∧ 2 ≤ len b ∧ len a ≤ (16384 : Int).tdiv (len b)) ∧ Hp w0 w ([(b1, cel (tv k 0 (some ⟨pb, po, none⟩) [a, b].length c) 25)] :: F)) [(3, _), (4, _)] ⟨rfl, rfl, trivial⟩ ?_ ?_
            rotate_left
            · skip
              intro k2 hk2
              refine J.region ?_
              refine JL.go trivial (RX.movev (v := Value.int _ _) rfl) ?_
              refine JL.go trivial (RX.ge rfl rfl) ?_
              refine JL.go trivial (RX.movev (v := Value.bool _) rfl) ?_
              refine JL.splitS 67 rfl (fun h12 => ?_) (fun h12 => ?_)
              · skip
                first | have h12p := of_decide_eq_true h12 | skip
                refine JL.go ⟨_, rfl, h12⟩ (RX.movev (v := Value.int _ _) rfl) ?_
                refine JL.go ⟨_, rfl, h12⟩ (RX.ge rfl rfl) ?_
                refine JL.go trivial (RX.pick_t rfl h12) ?_
                refine JL.go trivial (RX.movev (v := Value.bool _) rfl) ?_
                refine JL.splitS 71 rfl (fun hgb => ?_) (fun hgb => ?_)
                · skip
                  first | have hgbp := of_decide_eq_true hgb | skip
                  have hb2 : 2 ≤ len b := by omega
                  have htd := tdiv_ok hb2
                  refine JL.go ⟨_, rfl, hgb⟩ (RX.movev (v := Value.int _ _) rfl) ?_
                  refine JL.go ⟨_, rfl, hgb⟩ (RX.movev (v := Value.int _ _) rfl) ?_
                  refine JL.go ⟨_, rfl, hgb⟩ (RX.quo rfl rfl (by omega) (w_i64 (r := (16384 : Int).tdiv (len b)) rfl (by omega) (by omega))) ?_
                  refine JL.go ⟨_, rfl, hgb⟩ (RX.le rfl rfl) ?_
                  refine JL.go trivial (RX.pick_t rfl hgb) ?_
                  refine JL.nil ?_
                  first
                  | exact hk2 false _ _ ⟨rfl, rfl, trivial⟩ ⟨rfl, trivial⟩ ⟨(decide_eq_false (by omega)).symm, H⟩
                  | exact hk2 true _ _ ⟨rfl, rfl, trivial⟩ ⟨rfl, trivial⟩ ⟨(decide_eq_true (by omega)).symm, H⟩
                  | exact hk2 _ _ _ ⟨rfl, rfl, trivial⟩ ⟨rfl, trivial⟩ ⟨by congr 1; rw [eq_iff_iff]; omega, H⟩
                · skip
                  first | have hgbp := of_decide_eq_false hgb | skip
                  refine JL.no ⟨_, rfl, gno hgb⟩ ?_
                  refine JL.no ⟨_, rfl, gno hgb⟩ ?_
                  refine JL.no ⟨_, rfl, gno hgb⟩ ?_
                  refine JL.no ⟨_, rfl, gno hgb⟩ ?_
                  refine JL.go trivial (RX.pick_f rfl hgb) ?_
                  refine JL.nil ?_
                  first
                  | exact hk2 false _ _ ⟨rfl, rfl, trivial⟩ ⟨rfl, trivial⟩ ⟨(decide_eq_false (by omega)).symm, H⟩
                  | exact hk2 true _ _ ⟨rfl, rfl, trivial⟩ ⟨rfl, trivial⟩ ⟨(decide_eq_true (by omega)).symm, H⟩
                  | exact hk2 _ _ _ ⟨rfl, rfl, trivial⟩ ⟨rfl, trivial⟩ ⟨by congr 1; rw [eq_iff_iff]; omega, H⟩
              · skip
                first | have h12p := of_decide_eq_false h12 | skip
                refine JL.no ⟨_, rfl, gno h12⟩ ?_
                refine JL.no ⟨_, rfl, gno h12⟩ ?_
                refine JL.go trivial (RX.pick_f rfl h12) ?_
                refine JL.go trivial (RX.movev (v := Value.bool _) rfl) ?_
                refine JL.no ⟨_, rfl, gno rfl⟩ ?_
                refine JL.no ⟨_, rfl, gno rfl⟩ ?_
                refine JL.no ⟨_, rfl, gno rfl⟩ ?_
                refine JL.no ⟨_, rfl, gno rfl⟩ ?_
                refine JL.go trivial (RX.pick_f rfl rfl) ?_
                refine JL.nil ?_
                first
                | exact hk2 false _ _ ⟨rfl, rfl, trivial⟩ ⟨rfl, trivial⟩ ⟨(decide_eq_false (by omega)).symm, H⟩
                | exact hk2 true _ _ ⟨rfl, rfl, trivial⟩ ⟨rfl, trivial⟩ ⟨(decide_eq_true (by omega)).symm, H⟩
                | exact hk2 _ _ _ ⟨rfl, rfl, trivial⟩ ⟨rfl, trivial⟩ ⟨by congr 1; rw [eq_iff_iff]; omega, H⟩
            · skip
              clear H
              rintro q ρ w ⟨hq13, H⟩
              refine J.cond rfl (fun hb76 => ?_) (fun hb76 => ?_)
              · skip
                have hc5 := of_decide_eq_true (hq13.symm.trans hb76)
                refine J.seq ?_
                refine J.region ?_
                refine JL.go trivial (RX.movev (v := Value.int _ _) rfl) ?_
                refine JL.go trivial (RX.movev (v := Value.int _ _) rfl) ?_
                refine JL.go trivial (RX.mul rfl rfl (w_i64 (r := len a * len b) rfl (by have := mul_small hra.1 hra.2 hrb.1 hrb.2; omega) (by have := mul_small hra.1 hra.2 hrb.1 hrb.2; omega))) ?_
                refine JL.go trivial (RX.assignv (v := Value.int _ _) rfl) ?_
                refine JL.nil ?_
                refine J.ret1 (v := Value.int _ _) Tryd.func45 rfl rfl ?_
                first
                | (rw [lenA (by omega), if_pos hc1]; exact ⟨_, rfl, rfl, H.drop⟩)
                | (rw [lenA (by omega), if_neg hn1]; exact ⟨_, rfl, rfl, H.drop⟩)
                | (rw [lenB (by omega), if_pos hc2]; exact ⟨_, rfl, rfl, H.drop⟩)
                | (rw [lenB (by omega), if_neg hn2]; exact ⟨_, rfl, rfl, H.drop⟩)
                | (rw [lenC0 (by omega) hc3]; exact ⟨_, rfl, rfl, H.drop⟩)
                | (obtain rfl : k = 3 := by omega
                   rw [lenCC, if_pos hc5]; exact ⟨_, rfl, rfl, H.drop⟩)
                | (obtain rfl : k = 3 := by omega
                   rw [lenCC, if_neg hn5]; exact ⟨_, rfl, rfl, H.drop⟩)
                | (rw [lenD0 (by omega) hc4]; exact ⟨_, rfl, rfl, H.drop⟩)
                | (obtain rfl : k = 4 := by omega
                   rw [lenD (by omega) (by omega), if_pos (by omega)]; exact ⟨_, rfl, rfl, H.drop⟩)
                | (obtain rfl : k = 4 := by omega
                   rw [lenD (by omega) (by omega), if_neg (by omega)]; exact ⟨_, rfl, rfl, H.drop⟩)
                | (rw [lenE (by omega) (by omega) (by omega) (by omega)]; exact ⟨_, rfl, rfl, H.drop⟩)
              · skip
                have hn5 := of_decide_eq_false (hq13.symm.trans hb76)
                refine J.skip ?_
                refine J.inBlock ?_
                refine J.seq ?_
                refine J.region ?_
                refine JL.go trivial (RX.assign) ?_
                refine JL.nil ?_
                refine J.ret1 (v := Value.int _ _) Tryd.func45 rfl rfl ?_
                first
                | (rw [lenA (by omega), if_pos hc1]; exact ⟨_, rfl, rfl, H.drop⟩)
                | (rw [lenA (by omega), if_neg hn1]; exact ⟨_, rfl, rfl, H.drop⟩)
                | (rw [lenB (by omega), if_pos hc2]; exact ⟨_, rfl, rfl, H.drop⟩)
                | (rw [lenB (by omega), if_neg hn2]; exact ⟨_, rfl, rfl, H.drop⟩)
                | (rw [lenC0 (by omega) hc3]; exact ⟨_, rfl, rfl, H.drop⟩)
                | (obtain rfl : k = 3 := by omega
                   rw [lenCC, if_pos hc5]; exact ⟨_, rfl, rfl, H.drop⟩)
                | (obtain rfl : k = 3 := by omega
                   rw [lenCC, if_neg hn5]; exact ⟨_, rfl, rfl, H.drop⟩)
                | (rw [lenD0 (by omega) hc4]; exact ⟨_, rfl, rfl, H.drop⟩)
                | (obtain rfl : k = 4 := by omega
                   rw [lenD (by omega) (by omega), if_pos (by omega)]; exact ⟨_, rfl, rfl, H.drop⟩)
                | (obtain rfl : k = 4 := by omega
                   rw [lenD (by omega) (by omega), if_neg (by omega)]; exact ⟨_, rfl, rfl, H.drop⟩)
                | (rw [lenE (by omega) (by omega) (by omega) (by omega)]; exact ⟨_, rfl, rfl, H.drop⟩)
      · skip
        refine J.seq ?_
        refine J.region ?_
        refine JL.go trivial (RX.eq rfl rfl) ?_
        refine JL.go trivial (RX.assignv (v := Value.bool _) rfl) ?_
        refine JL.nil ?_
        refine J.cond_d rfl (fun hk4 => ?_) (fun hk4 => ?_)
        · skip
          refine J.seq ?_
          refine J.seq ?_
          refine J.join (ι := Bool) (fun q => [(95, .bool q)]) (fun q w => q = decide (n < 2 ∨ 8192 < n ∨ ks.length ≠ 1) ∧ Hp w0 w ([(b1, cel (tv k n p ks.length c) 25)] :: F)) [(1, _)] ⟨rfl, trivial⟩ ?_ ?_
          rotate_left
          · skip
            intro k2 hk2
            refine J.region ?_
            refine JL.go trivial (RX.fieldAddr rfl fo25_1 rfl) ?_
            refine JL.go trivial (RX.load H rfl (i := 0) (v := .int .i64 n) rfl rfl one3) ?_
            refine JL.go trivial (RX.lt rfl rfl) ?_
            refine JL.go trivial (RX.movev (v := Value.bool _) rfl) ?_
            refine JL.splitS 85 rfl (fun h16 => ?_) (fun h16 => ?_)
            · skip
              first | have h16p := of_decide_eq_true h16 | skip
              refine JL.no ⟨_, rfl, gno h16⟩ ?_
              refine JL.no ⟨_, rfl, gno h16⟩ ?_
              refine JL.no ⟨_, rfl, gno h16⟩ ?_
              refine JL.go trivial (RX.pick_t rfl h16) ?_
              refine JL.go trivial (RX.movev (v := Value.bool _) rfl) ?_
              refine JL.no ⟨_, rfl, gno rfl⟩ ?_
              refine JL.no ⟨_, rfl, gno rfl⟩ ?_
              refine JL.no ⟨_, rfl, gno rfl⟩ ?_
              refine JL.no ⟨_, rfl, gno rfl⟩ ?_
              refine JL.go trivial (RX.pick_t rfl rfl) ?_
              refine JL.nil ?_
              first
              | exact hk2 false _ _ ⟨rfl, trivial⟩ ⟨rfl, trivial⟩ ⟨(decide_eq_false (by omega)).symm, H⟩
              | exact hk2 true _ _ ⟨rfl, trivial⟩ ⟨rfl, trivial⟩ ⟨(decide_eq_true (by omega)).symm, H⟩
              | exact hk2 _ _ _ ⟨rfl, trivial⟩ ⟨rfl, trivial⟩ ⟨by congr 1; rw [eq_iff_iff]; omega, H⟩
            · skip
              first | have h16p := of_decide_eq_false h16 | skip
              refine JL.go ⟨_, rfl, h16⟩ (RX.fieldAddr rfl fo25_1 rfl) ?_
              refine JL.go ⟨_, rfl, h16⟩ (RX.load H rfl (i := 0) (v := .int .i64 n) rfl rfl one3) ?_
              refine JL.go ⟨_, rfl, h16⟩ (RX.gt rfl rfl) ?_
              refine JL.go trivial (RX.pick_f rfl h16) ?_
              refine JL.go trivial (RX.movev (v := Value.bool _) rfl) ?_
              refine JL.splitS 90 rfl (fun h17 => ?_) (fun h17 => ?_)
              · skip
                first | have h17p := of_decide_eq_true h17 | skip
                refine JL.no ⟨_, rfl, gno h17⟩ ?_
                refine JL.no ⟨_, rfl, gno h17⟩ ?_
                refine JL.no ⟨_, rfl, gno h17⟩ ?_
                refine JL.no ⟨_, rfl, gno h17⟩ ?_
                refine JL.go trivial (RX.pick_t rfl h17) ?_
                refine JL.nil ?_
                first
                | exact hk2 false _ _ ⟨rfl, trivial⟩ ⟨rfl, trivial⟩ ⟨(decide_eq_false (by omega)).symm, H⟩
                | exact hk2 true _ _ ⟨rfl, trivial⟩ ⟨rfl, trivial⟩ ⟨(decide_eq_true (by omega)).symm, H⟩
                | exact hk2 _ _ _ ⟨rfl, trivial⟩ ⟨rfl, trivial⟩ ⟨by congr 1; rw [eq_iff_iff]; omega, H⟩
              · skip
                first | have h17p := of_decide_eq_false h17 | skip
                refine JL.go ⟨_, rfl, h17⟩ (RX.fieldAddr rfl fo25_2 rfl) ?_
                refine JL.go ⟨_, rfl, h17⟩ (RX.load H rfl (i := 0) (v := .slice p ks.length c) rfl rfl one23) ?_
                refine JL.go ⟨_, rfl, h17⟩ (RX.len_slice rfl (by rw [sl23]; rfl) rfl) ?_
                refine JL.go ⟨_, rfl, h17⟩ (RX.ne rfl rfl) ?_
                refine JL.go trivial (RX.pick_f rfl h17) ?_
                refine JL.nil ?_
                first
                | exact hk2 false _ _ ⟨rfl, trivial⟩ ⟨rfl, trivial⟩ ⟨(decide_eq_false (by omega)).symm, H⟩
                | exact hk2 true _ _ ⟨rfl, trivial⟩ ⟨rfl, trivial⟩ ⟨(decide_eq_true (by omega)).symm, H⟩
                | exact hk2 _ _ _ ⟨rfl, trivial⟩ ⟨rfl, trivial⟩ ⟨by congr 1; rw [eq_iff_iff]; omega, H⟩
          · skip
            clear H
            rintro q ρ w ⟨hq16, H⟩
            refine J.cond rfl (fun hb95 => ?_) (fun hb95 => ?_)
            · skip
              have hc4 := of_decide_eq_true (hq16.symm.trans hb95)
              refine J.seq ?_
              refine J.region ?_
              refine JL.go trivial (RX.assign) ?_
              refine JL.nil ?_
              refine J.ret1 (v := Value.int _ _) Tryd.func45 rfl rfl ?_
              first
              | (rw [lenA (by omega), if_pos hc1]; exact ⟨_, rfl, rfl, H.drop⟩)
              | (rw [lenA (by omega), if_neg hn1]; exact ⟨_, rfl, rfl, H.drop⟩)
              | (rw [lenB (by omega), if_pos hc2]; exact ⟨_, rfl, rfl, H.drop⟩)
              | (rw [lenB (by omega), if_neg hn2]; exact ⟨_, rfl, rfl, H.drop⟩)
              | (rw [lenC0 (by omega) hc3]; exact ⟨_, rfl, rfl, H.drop⟩)
              | (obtain rfl : k = 3 := by omega
                 rw [lenCC, if_pos hc5]; exact ⟨_, rfl, rfl, H.drop⟩)
              | (obtain rfl : k = 3 := by omega
                 rw [lenCC, if_neg hn5]; exact ⟨_, rfl, rfl, H.drop⟩)
              | (rw [lenD0 (by omega) hc4]; exact ⟨_, rfl, rfl, H.drop⟩)
              | (obtain rfl : k = 4 := by omega
                 rw [lenD (by omega) (by omega), if_pos (by omega)]; exact ⟨_, rfl, rfl, H.drop⟩)
              | (obtain rfl : k = 4 := by omega
                 rw [lenD (by omega) (by omega), if_neg (by omega)]; exact ⟨_, rfl, rfl, H.drop⟩)
              | (rw [lenE (by omega) (by omega) (by omega) (by omega)]; exact ⟨_, rfl, rfl, H.drop⟩)
            · skip
              have hn4 := of_decide_eq_false (hq16.symm.trans hb95)
              have hl1 : ks.length = 1 := by omega
              obtain ⟨a, rfl⟩ := one_of hl1
              obtain ⟨va, hva, hia⟩ := hk.get (i := 0) (t := a) rfl
              have hpa := kid_lt (k := k) (n := n) (ks := [a]) (i := 0) (t := a) rfl
              have hxl := hk.len
              have hl1 : [a].length = 1 := rfl
              obtain ⟨pb, po, rfl⟩ := spot_some hs (by omega)
              have hra := len_range _ a (Nat.le_refl _)
              refine J.skip ?_
              refine J.seq ?_
              refine J.region ?_
              refine JL.go trivial (RX.fieldAddr rfl fo25_2 rfl) ?_
              refine JL.go trivial (RX.load H rfl (i := 0) (v := .slice (some ⟨pb, po, none⟩) [a].length c) rfl rfl one23) ?_
              refine JL.go trivial (RX.indexAddr rfl rfl sl23 (by omega) (by omega) (o' := po + 0 * 3) (by omega)) ?_
              refine JL.go trivial (RX.loadAggS H hs.cons rfl (j := 0 * 3) (by omega) (vs := va) hva ag25) ?_
              refine JL.does trivial (EX.call rfl cl45 rfl ((ih a hpa (by omega) _ _ _ _ H hia.cons))) ?_
              rintro _ w ⟨rfl, H⟩
              refine JL.go trivial (RX.assignv (v := Value.int _ _) rfl) ?_
              refine JL.nil ?_
              refine J.seq ?_
              refine J.region ?_
              refine JL.go trivial (RX.movev (v := Value.int _ _) rfl) ?_
              refine JL.go trivial (RX.fieldAddr rfl fo25_1 rfl) ?_
              refine JL.go trivial (RX.load H rfl (i := 0) (v := .int .i64 n) rfl rfl one3) ?_
              refine JL.go trivial (RX.mul rfl rfl (w_i64 (r := 2 * n) rfl (by omega) (by omega))) ?_
              refine JL.go trivial (RX.sub rfl rfl (w_i64 (r := 2 * n - 1) rfl (by omega) (by omega))) ?_
              refine JL.go trivial (RX.ge rfl rfl) ?_
              refine JL.nil ?_
              refine J.cond_d rfl (fun hge => ?_) (fun hge => ?_)
              · skip
                refine J.seq ?_
                refine J.region ?_
                refine JL.go trivial (RX.fieldAddr rfl fo25_1 rfl) ?_
                refine JL.go trivial (RX.load H rfl (i := 0) (v := .int .i64 n) rfl rfl one3) ?_
                refine JL.go trivial (RX.assignv (v := Value.int _ _) rfl) ?_
                refine JL.nil ?_
                refine J.ret1 (v := Value.int _ _) Tryd.func45 rfl rfl ?_
                first
                | (rw [lenA (by omega), if_pos hc1]; exact ⟨_, rfl, rfl, H.drop⟩)
                | (rw [lenA (by omega), if_neg hn1]; exact ⟨_, rfl, rfl, H.drop⟩)
                | (rw [lenB (by omega), if_pos hc2]; exact ⟨_, rfl, rfl, H.drop⟩)
                | (rw [lenB (by omega), if_neg hn2]; exact ⟨_, rfl, rfl, H.drop⟩)
                | (rw [lenC0 (by omega) hc3]; exact ⟨_, rfl, rfl, H.drop⟩)
                | (obtain rfl : k = 3 := by omega
                   rw [lenCC, if_pos hc5]; exact ⟨_, rfl, rfl, H.drop⟩)
                | (obtain rfl : k = 3 := by omega
                   rw [lenCC, if_neg hn5]; exact ⟨_, rfl, rfl, H.drop⟩)
                | (rw [lenD0 (by omega) hc4]; exact ⟨_, rfl, rfl, H.drop⟩)
                | (obtain rfl : k = 4 := by omega
                   rw [lenD (by omega) (by omega), if_pos (by omega)]; exact ⟨_, rfl, rfl, H.drop⟩)
                | (obtain rfl : k = 4 := by omega
                   rw [lenD (by omega) (by omega), if_neg (by omega)]; exact ⟨_, rfl, rfl, H.drop⟩)
                | (rw [lenE (by omega) (by omega) (by omega) (by omega)]; exact ⟨_, rfl, rfl, H.drop⟩)
              · skip
                refine J.skip ?_
                refine J.inBlock ?_
                refine J.seq ?_
                refine J.region ?_
                refine JL.go trivial (RX.assign) ?_
                refine JL.nil ?_
                refine J.ret1 (v := Value.int _ _) Tryd.func45 rfl rfl ?_
                first
                | (rw [lenA (by omega), if_pos hc1]; exact ⟨_, rfl, rfl, H.drop⟩)
                | (rw [lenA (by omega), if_neg hn1]; exact ⟨_, rfl, rfl, H.drop⟩)
                | (rw [lenB (by omega), if_pos hc2]; exact ⟨_, rfl, rfl, H.drop⟩)
                | (rw [lenB (by omega), if_neg hn2]; exact ⟨_, rfl, rfl, H.drop⟩)
                | (rw [lenC0 (by omega) hc3]; exact ⟨_, rfl, rfl, H.drop⟩)
                | (obtain rfl : k = 3 := by omega
                   rw [lenCC, if_pos hc5]; exact ⟨_, rfl, rfl, H.drop⟩)
                | (obtain rfl : k = 3 := by omega
                   rw [lenCC, if_neg hn5]; exact ⟨_, rfl, rfl, H.drop⟩)
                | (rw [lenD0 (by omega) hc4]; exact ⟨_, rfl, rfl, H.drop⟩)
                | (obtain rfl : k = 4 := by omega
                   rw [lenD (by omega) (by omega), if_pos (by omega)]; exact ⟨_, rfl, rfl, H.drop⟩)
                | (obtain rfl : k = 4 := by omega
                   rw [lenD (by omega) (by omega), if_neg (by omega)]; exact ⟨_, rfl, rfl, H.drop⟩)
                | (rw [lenE (by omega) (by omega) (by omega) (by omega)]; exact ⟨_, rfl, rfl, H.drop⟩)
        · skip
          refine J.skip ?_
          refine J.inBlock ?_
          refine J.seq ?_
          refine J.region ?_
          refine JL.go trivial (RX.assign) ?_
          refine JL.nil ?_
          refine J.ret1 (v := Value.int _ _) Tryd.func45 rfl rfl ?_
          first
          | (rw [lenA (by omega), if_pos hc1]; exact ⟨_, rfl, rfl, H.drop⟩)
          | (rw [lenA (by omega), if_neg hn1]; exact ⟨_, rfl, rfl, H.drop⟩)
          | (rw [lenB (by omega), if_pos hc2]; exact ⟨_, rfl, rfl, H.drop⟩)
          | (rw [lenB (by omega), if_neg hn2]; exact ⟨_, rfl, rfl, H.drop⟩)
          | (rw [lenC0 (by omega) hc3]; exact ⟨_, rfl, rfl, H.drop⟩)
          | (obtain rfl : k = 3 := by omega
             rw [lenCC, if_pos hc5]; exact ⟨_, rfl, rfl, H.drop⟩)
          | (obtain rfl : k = 3 := by omega
             rw [lenCC, if_neg hn5]; exact ⟨_, rfl, rfl, H.drop⟩)
          | (rw [lenD0 (by omega) hc4]; exact ⟨_, rfl, rfl, H.drop⟩)
          | (obtain rfl : k = 4 := by omega
             rw [lenD (by omega) (by omega), if_pos (by omega)]; exact ⟨_, rfl, rfl, H.drop⟩)
          | (obtain rfl : k = 4 := by omega
             rw [lenD (by omega) (by omega), if_neg (by omega)]; exact ⟨_, rfl, rfl, H.drop⟩)
          | (rw [lenE (by omega) (by omega) (by omega) (by omega)]; exact ⟨_, rfl, rfl, H.drop⟩)
theorem leng_b : ∀ t, LengC t := tr_ind fun t ih hp w0 w F vs H ht => by
  obtain ⟨k, n, ks⟩ := t
  rw [Tr.Is] at ht
  obtain ⟨p, c, xs, rfl, hs, hk⟩ := ht
  exact leng_step ih hp H hs hk
theorem rLength_b {w0 w : World} {F : List Seg} (H : Hp w0 w F) {t : Tr} {vs : List Value} (ht : t.Is F vs) (hp : t.parts ≤ 4194304) : Ret Tryd.prog 27 [.agg vs.toArray] w fun v w' => v = .int .i64 (lenO t) ∧ Hp w0 w' F := by
  refine Calls.of_J (n := 13) Tryd.func27 rfl rfl rfl ?_
  refine J.seq ?_
  obtain ⟨k, n, p, m, c, rfl⟩ := ht.shape
  have hll := len_law t
  unfold lenR at hll
  refine J.region ?_
  refine JL.does trivial (EX.box (v := Value.agg _) H rfl rfl) ?_
  rintro _ w ⟨b1, rfl, H⟩
  refine JL.go trivial (RX.assign) ?_
  refine JL.nil ?_
  refine J.seq ?_
  refine J.seq ?_
  refine J.region ?_
  refine JL.go trivial (RX.loadAgg H rfl (i := 0) (vs := tv k n p m c) rfl rfl ag25) ?_
  refine JL.does trivial (EX.call rfl cl38 rfl ((parts_b t (wide_small _ t (Nat.le_refl _) hp) _ _ _ _ 4096 (by decide) H ht.cons))) ?_
  rintro _ w ⟨rfl, H⟩
  refine JL.go trivial (RX.gt rfl rfl) ?_
  refine JL.go trivial (RX.movev (v := Value.bool _) rfl) ?_
  refine JL.splitS 6 rfl (fun hbig => ?_) (fun hbig => ?_)
  · skip
    first | have hbigp := of_decide_eq_true hbig | skip
    rw [if_neg (fun h => by omega)] at hll
    refine JL.no ⟨_, rfl, gno hbig⟩ ?_
    refine JL.no ⟨_, rfl, gno hbig⟩ ?_
    refine JL.no ⟨_, rfl, gno hbig⟩ ?_
    refine JL.go trivial (RX.pick_t rfl hbig) ?_
    refine JL.nil ?_
    refine J.cond_t rfl rfl ?_
    refine J.seq ?_
    refine J.region ?_
    refine JL.go trivial (RX.assign) ?_
    refine JL.nil ?_
    refine J.ret1 (v := Value.int _ _) Tryd.func27 rfl rfl ?_
    exact ⟨_, rfl, by rw [hll], H.drop⟩
  · skip
    first | have hbigp := of_decide_eq_false hbig | skip
    refine JL.go ⟨_, rfl, hbig⟩ (RX.loadAgg H rfl (i := 0) (vs := tv k n p m c) rfl rfl ag25) ?_
    refine JL.does ⟨_, rfl, hbig⟩ (EX.call rfl cl44 rfl ((deep_b t hp _ _ _ _ 16 (by decide) H ht.cons))) ?_
    rintro _ w ⟨rfl, H⟩
    refine JL.go ⟨_, rfl, hbig⟩ (RX.not rfl) ?_
    refine JL.go trivial (RX.pick_f rfl hbig) ?_
    refine JL.nil ?_
    refine J.cond rfl (fun hdp => ?_) (fun hdp => ?_)
    · skip
      have hdp2 : ¬ t.depth ≤ 16 := by simpa using hdp
      rw [if_neg (fun h => hdp2 h.2)] at hll
      refine J.seq ?_
      refine J.region ?_
      refine JL.go trivial (RX.assign) ?_
      refine JL.nil ?_
      refine J.ret1 (v := Value.int _ _) Tryd.func27 rfl rfl ?_
      exact ⟨_, rfl, by rw [hll], H.drop⟩
    · skip
      have hdp2 : t.depth ≤ 16 := by simpa using hdp
      rw [if_pos (by omega)] at hll
      refine J.skip ?_
      refine J.seq ?_
      refine J.region ?_
      refine JL.go trivial (RX.loadAgg H rfl (i := 0) (vs := tv k n p m c) rfl rfl ag25) ?_
      refine JL.does trivial (EX.call rfl cl45 rfl ((leng_b t hp _ _ _ _ H ht.cons))) ?_
      rintro _ w ⟨rfl, H⟩
      refine JL.go trivial (RX.assignv (v := Value.int _ _) rfl) ?_
      refine JL.nil ?_
      refine J.ret1 (v := Value.int _ _) Tryd.func27 rfl rfl ?_
      exact ⟨_, rfl, by rw [hll], H.drop⟩
theorem rCheck_b {w0 w : World} {F : List Seg} (H : Hp w0 w F) {t : Tr} {vs : List Value} (ht : t.Is F vs) (hp : t.parts ≤ 4194304) : Ret Tryd.prog 36 [.agg vs.toArray] w fun v w' => v = .int .i64 (c8 t : Nat) ∧ Hp w0 w' F := by
  refine Calls.of_J (n := 6) Tryd.func36 rfl rfl rfl ?_
  refine J.seq ?_
  obtain ⟨k, n, p, m, c, rfl⟩ := ht.shape
  refine J.region ?_
  refine JL.does trivial (EX.box (v := Value.agg _) H rfl rfl) ?_
  rintro _ w ⟨b1, rfl, H⟩
  refine JL.go trivial (RX.assign) ?_
  refine JL.nil ?_
  refine J.seq ?_
  refine J.seq ?_
  refine J.region ?_
  refine JL.go trivial (RX.loadAgg H rfl (i := 0) (vs := tv k n p m c) rfl rfl ag25) ?_
  refine JL.does trivial (EX.call rfl cl27 rfl ((rLength_b H ht.cons hp))) ?_
  rintro _ w ⟨rfl, H⟩
  refine JL.go trivial (RX.eq rfl rfl) ?_
  refine JL.nil ?_
  refine J.cond_d rfl (fun h0 => ?_) (fun h0 => ?_)
  · skip
    refine J.seq ?_
    refine J.region ?_
    refine JL.go trivial (RX.assign) ?_
    refine JL.nil ?_
    refine J.ret1 (v := Value.int _ _) Tryd.func36 rfl rfl ?_
    exact ⟨_, rfl, by unfold c8; rw [if_pos h0]; rfl, H.drop⟩
  · skip
    refine J.skip ?_
    refine J.seq ?_
    refine J.region ?_
    refine JL.go trivial (RX.assign) ?_
    refine JL.nil ?_
    refine J.ret1 (v := Value.int _ _) Tryd.func36 rfl rfl ?_
    exact ⟨_, rfl, by unfold c8; rw [if_neg h0]; rfl, H.drop⟩
end Go.Proofs.YtinbeaaloailnaaDoor
