/- The transforms modulo a prime: the reference. -/
import Derived.Test.YtfdghjlfplhpjaaGreatDoorEx
namespace Go.Proofs.YtfdghjlfplhpjaaGreatDoor
open Go Go.Eng
set_option maxRecDepth 100000
set_option linter.unusedVariables false
set_option linter.unusedSimpArgs false
theorem cl15 : callable Tryz.prog 15 = true := by kernel_rfl
theorem cl18 : callable Tryz.prog 18 = true := by kernel_rfl
theorem cl19 : callable Tryz.prog 19 = true := by kernel_rfl
theorem cl34 : callable Tryz.prog 34 = true := by kernel_rfl
theorem rsums_b {w0 w : World} {F : List Seg} (H : Hp w0 w F) {xs : List Nat} {px : Option Addr} {c : Nat} (hs : SlAt F px (u64sV xs)) (hx : ∀ x ∈ xs, x < 18446744073709551616) {r p : Nat} (hn : xs.length ≤ 1024) (hp : 1 < p) (hp2 : p < 4294967296) (hr : r < p) : Ret Tryz.prog 19 [.slice px xs.length c, .int .u64 ((r : Nat) : Int), .int .u64 ((p : Nat) : Int)] w fun v w' => ∃ q c sl, v = .slice q (dft p r xs).length c ∧ OwnSl 24 1 q (dft p r xs).length c (u64sV (dft p r xs)) sl ∧ Hp w0 w' (sl :: F) := by
  refine Calls.of_J (n := 53) Tryz.func19 rfl rfl rfl ?_
  refine J.seq ?_
  refine J.region ?_
  refine JL.go trivial (RX.assign) ?_
  refine JL.nil ?_
  refine J.seq ?_
  refine J.region ?_
  refine JL.does trivial (EX.buildSlice0 H elU) ?_
  rintro _ w ⟨b0, rfl, H⟩
  refine JL.go trivial (RX.assignv (v := Value.slice _ _ _) rfl) ?_
  refine JL.nil ?_
  refine J.seq ?_
  refine J.region ?_
  refine JL.go trivial (RX.assign) ?_
  refine JL.nil ?_
  refine J.seq ?_
  refine J.seq ?_
  refine J.region ?_
  refine JL.go trivial (RX.assign) ?_
  refine JL.nil ?_
  refine J.block ?_
  refine J.loop (ι := Nat × Nat × List Nat × Option Addr × Nat × Seg) (S := fun z => [(9, .int .i64 ((z.1 : Nat) : Int)), (8, .int .u64 ((z.2.1 : Nat) : Int)), (7, .slice z.2.2.2.1 z.2.2.1.length z.2.2.2.2.1)]) (Φ := fun z w => z.1 ≤ xs.length ∧ z.2.1 = pw p r z.1 ∧ z.2.2.1 = (List.range z.1).map (fun k => sm p xs (fun j => pw p r (k * j)) xs.length) ∧ OwnSl 24 1 z.2.2.2.1 (z.2.2.1).length z.2.2.2.2.1 (u64sV (z.2.2.1)) z.2.2.2.2.2 ∧ Hp w0 w (z.2.2.2.2.2 :: F)) (μ := fun z => xs.length - z.1) (C := [(0, _), (1, _), (2, _)]) (0, 1, [], some ⟨b0, 0, none⟩, 0, [(b0, cel [] 24)]) ⟨rfl, rfl, rfl, trivial⟩ ⟨rfl, rfl, rfl, trivial⟩ ?_ ?_
  · exact ⟨by simp, (Nat.mod_eq_of_lt hp).symm, rfl, OwnSl.empty, H⟩
  clear H
  rintro ⟨k, st, o, q, co, sl⟩ ρ w ⟨hk, hst, hoe, ho, H⟩ IH
  simp only at hk hst hoe ho H
  have hstl := pw_lt (show 0 < p by omega) r k
  rw [← hst] at hstl
  have hol : o.length = k := by rw [hoe]; simp
  dsimp only
  refine J.seq ?_
  refine J.seq ?_
  refine J.region ?_
  refine JL.go trivial (RX.movev (v := Value.int _ _) rfl) ?_
  refine JL.go trivial (RX.movev (v := Value.slice _ _ _) rfl) ?_
  refine JL.go trivial (RX.len_slice rfl (by rw [sl22]; rfl) rfl) ?_
  refine JL.go trivial (RX.lt rfl rfl) ?_
  refine JL.nil ?_
  refine J.cond_d rfl (fun hklt => ?_) (fun hklt => ?_)
  · skip
    refine J.skip ?_
    refine J.seq ?_
    refine J.block ?_
    refine J.seq ?_
    refine J.region ?_
    refine JL.go trivial (RX.assign) ?_
    refine JL.go trivial (RX.assign) ?_
    refine JL.nil ?_
    refine J.seq ?_
    refine J.seq ?_
    refine J.region ?_
    refine JL.go trivial (RX.assign) ?_
    refine JL.nil ?_
    refine J.block ?_
    refine J.loop (ι := Nat × Nat × Nat) (S := fun z => [(12, .int .i64 ((z.1 : Nat) : Int)), (10, .int .u64 ((z.2.1 : Nat) : Int)), (11, .int .u64 ((z.2.2 : Nat) : Int))]) (Φ := fun z w => z.1 ≤ xs.length ∧ z.2.1 = sm p xs (fun j => pw p r (k * j)) z.1 ∧ z.2.2 = pw p r (k * z.1) ∧ Hp w0 w (sl :: F)) (μ := fun z => xs.length - z.1) (C := [(0, _), (1, _), (2, _), (7, _), (8, _), (9, _)]) (0, 0, 1) ⟨rfl, rfl, rfl, rfl, rfl, rfl, trivial⟩ ⟨rfl, rfl, rfl, trivial⟩ ?_ ?_
    · exact ⟨by simp, rfl, (Nat.mod_eq_of_lt hp).symm, H⟩
    clear H
    rintro ⟨j, y, f⟩ ρ w ⟨hj, hy, hf, H⟩ IH2
    simp only at hj hy hf H
    have hfl := pw_lt (show 0 < p by omega) r (k * j)
    rw [← hf] at hfl
    have hyl := sm_lt (show 0 < p by omega) xs (fun j => pw p r (k * j)) j
    rw [← hy] at hyl
    dsimp only
    refine J.seq ?_
    refine J.seq ?_
    refine J.region ?_
    refine JL.go trivial (RX.movev (v := Value.int _ _) rfl) ?_
    refine JL.go trivial (RX.movev (v := Value.slice _ _ _) rfl) ?_
    refine JL.go trivial (RX.len_slice rfl (by rw [sl22]; rfl) rfl) ?_
    refine JL.go trivial (RX.lt rfl rfl) ?_
    refine JL.nil ?_
    refine J.cond_d rfl (fun hjlt => ?_) (fun hjlt => ?_)
    · skip
      obtain ⟨x, hxj⟩ : ∃ x, xs[j]? = some x := ⟨_, List.getElem?_eq_getElem (by omega)⟩
      have hxl := hx x (List.mem_of_getElem? hxj)
      obtain ⟨pb, po, rfl, hpp⟩ := hs.some (by rw [u64sV_len]; omega)
      have hxm := Nat.mod_lt x (show 0 < p by omega)
      have hm1 := mul_lt32 (show x % p < 4294967296 by omega) (show f < 4294967296 by omega)
      have hm2 := mul_lt32 (show f < 4294967296 by omega) (show st < 4294967296 by omega)
      have hm3 : x % p * f ≤ 4294967295 * 4294967295 := Nat.mul_le_mul (by omega) (by omega)
      refine J.skip ?_
      refine J.seq ?_
      refine J.block ?_
      refine J.seq ?_
      refine J.region ?_
      refine JL.go trivial (RX.movev (v := Value.int _ _) rfl) ?_
      refine JL.go trivial (RX.movev (v := Value.slice _ _ _) rfl) ?_
      refine JL.go trivial (RX.movev (v := Value.int _ _) rfl) ?_
      refine JL.go trivial (RX.indexAddr rfl rfl sl22 (by omega) (by omega) (o' := po + j) (by omega)) ?_
      refine JL.go trivial (RX.loadS H hs.cons rfl (j := j) rfl (u64sV_get hxj) one24) ?_
      refine JL.go trivial (RX.movev (v := Value.int _ _) rfl) ?_
      refine JL.go trivial (RX.rem rfl rfl (by omega) rem_nat) ?_
      refine JL.go trivial (RX.movev (v := Value.int _ _) rfl) ?_
      refine JL.go trivial (RX.mul rfl rfl (wn (n := x % p * f) (by rw [Int.natCast_mul]) hm1)) ?_
      refine JL.go trivial (RX.add rfl rfl (wn (n := y + x % p * f) (by omega) (by omega))) ?_
      refine JL.go trivial (RX.movev (v := Value.int _ _) rfl) ?_
      refine JL.go trivial (RX.rem rfl rfl (by omega) rem_nat) ?_
      refine JL.go trivial (RX.assignv (v := Value.int _ _) rfl) ?_
      refine JL.nil ?_
      refine J.region ?_
      refine JL.go trivial (RX.movev (v := Value.int _ _) rfl) ?_
      refine JL.go trivial (RX.movev (v := Value.int _ _) rfl) ?_
      refine JL.go trivial (RX.mul rfl rfl (wn (n := f * st) (by rw [Int.natCast_mul]) hm2)) ?_
      refine JL.go trivial (RX.movev (v := Value.int _ _) rfl) ?_
      refine JL.go trivial (RX.rem rfl rfl (by omega) rem_nat) ?_
      refine JL.go trivial (RX.assignv (v := Value.int _ _) rfl) ?_
      refine JL.nil ?_
      refine J.inBlock ?_
      refine J.region ?_
      refine JL.go trivial (RX.movev (v := Value.int _ _) rfl) ?_
      refine JL.go trivial (RX.add rfl rfl (wi (n := j + 1) (by omega) (by omega))) ?_
      refine JL.go trivial (RX.assignv (v := Value.int _ _) rfl) ?_
      refine JL.nil ?_
      refine IH2 (j + 1, (y + x % p * f) % p, f * st % p) _ _ (by simp only; omega) ⟨rfl, rfl, rfl, rfl, rfl, rfl, trivial⟩ ⟨rfl, rfl, rfl, trivial⟩ ⟨by simp only; omega, ?_, ?_, H⟩
      · show (y + x % p * f) % p = sm p xs (fun j => pw p r (k * j)) (j + 1)
        rw [sm, List.getD_eq_getElem?_getD, hxj, sm_step, hy, hf]; rfl
      · show f * st % p = pw p r (k * (j + 1))
        rw [Nat.mul_succ, pw_add, hf, hst]
    · skip
      have hje : j = xs.length := by omega
      subst hje
      have hstr := mul_lt32 (show st < 4294967296 by omega) (show r < 4294967296 by omega)
      refine J.exit rfl ?_
      refine J.seq ?_
      refine J.region ?_
      refine JL.go trivial (RX.movev (v := Value.slice _ _ _) rfl) ?_
      refine JL.go trivial (RX.movev (v := Value.int _ _) rfl) ?_
      refine JL.does trivial (EX.buildSlice1 H elU rfl rfl) ?_
      rintro _ w ⟨bz, rfl, H⟩
      refine JL.does trivial (EX.append (ys := [.int .u64 (y : Int)]) (L' := fun s' => [(bz, cel [.int .u64 (y : Int)] 24)] :: s' :: F) H elU rfl rfl (i := 1) rfl ho (SlAt.here rfl) rfl (u64sV_cell [y]) (by decide) (by omega) (by omega) (fun _ => rfl)) ?_
      rintro _ w ⟨p3, c3, s3, rfl, ho3, H⟩
      replace ho3 : OwnSl 24 1 p3 (o ++ [y]).length c3 (u64sV (o ++ [y])) s3 := by rw [List.length_append, u64sV_app]; exact ho3
      refine JL.go trivial (RX.assignv (v := Value.slice _ _ _) rfl) ?_
      refine JL.nil ?_
      refine J.region ?_
      refine JL.go trivial (RX.movev (v := Value.int _ _) rfl) ?_
      refine JL.go trivial (RX.movev (v := Value.int _ _) rfl) ?_
      refine JL.go trivial (RX.mul rfl rfl (wn (n := st * r) (by rw [Int.natCast_mul]) hstr)) ?_
      refine JL.go trivial (RX.movev (v := Value.int _ _) rfl) ?_
      refine JL.go trivial (RX.rem rfl rfl (by omega) rem_nat) ?_
      refine JL.go trivial (RX.assignv (v := Value.int _ _) rfl) ?_
      refine JL.nil ?_
      refine J.inBlock ?_
      refine J.region ?_
      refine JL.go trivial (RX.movev (v := Value.int _ _) rfl) ?_
      refine JL.go trivial (RX.add rfl rfl (wi (n := k + 1) (by omega) (by omega))) ?_
      refine JL.go trivial (RX.assignv (v := Value.int _ _) rfl) ?_
      refine JL.nil ?_
      refine IH (k + 1, st * r % p, o ++ [y], p3, c3, s3) _ _ (by simp only; omega) ⟨rfl, rfl, rfl, trivial⟩ ⟨rfl, rfl, by simp only [List.length_append]; rfl, trivial⟩ ⟨by simp only; omega, ?_, ?_, ho3, H.drop⟩
      · show st * r % p = pw p r (k + 1)
        rw [pw_add, pw_one, Nat.mod_eq_of_lt hr, hst]
      · show o ++ [y] = (List.range (k + 1)).map _
        rw [List.range_succ, List.map_append, ← hoe, hy]; rfl
  · skip
    have hke : k = xs.length := by omega
    subst hke
    obtain rfl : o = dft p r xs := hoe
    refine J.exit rfl ?_
    refine J.seq ?_
    refine J.region ?_
    refine JL.go trivial (RX.movev (v := Value.slice _ _ _) rfl) ?_
    refine JL.go trivial (RX.assignv (v := Value.slice _ _ _) rfl) ?_
    refine JL.nil ?_
    refine J.ret1 (v := Value.slice _ _ _) Tryz.func19 rfl rfl ?_
    exact ⟨_, rfl, q, co, sl, rfl, ho, H⟩
theorem ask_e1 {w0 w : World} {F : List Seg} (H : Hp w0 w F) {n : Nat} {prime : Int} (h : prime < 0) : Ret Tryz.prog 18 [.int .i64 ((n : Nat) : Int), .int .i64 prime] w fun v w' => v = .tuple #[.int .u64 0, .int .u64 0, .int .i64 17] ∧ Hp w0 w' F := by
  refine Calls.of_J (n := 36) Tryz.func18 rfl rfl rfl ?_
  refine J.seq ?_
  refine J.region ?_
  refine JL.go trivial (RX.assign) ?_
  refine JL.go trivial (RX.assign) ?_
  refine JL.go trivial (RX.assign) ?_
  refine JL.nil ?_
  refine J.seq ?_
  refine J.seq ?_
  refine J.region ?_
  refine JL.go trivial (RX.movev (v := Value.int _ _) rfl) ?_
  refine JL.go trivial (RX.lt rfl rfl) ?_
  refine JL.go trivial (RX.movev (v := Value.bool _) rfl) ?_
  refine JL.no ⟨_, rfl, gno (decide_eq_true (by omega))⟩ ?_
  refine JL.no ⟨_, rfl, gno (decide_eq_true (by omega))⟩ ?_
  refine JL.go trivial (RX.pick_t rfl (decide_eq_true (by omega))) ?_
  refine JL.nil ?_
  refine J.cond_t rfl rfl ?_
  refine J.seq ?_
  refine J.region ?_
  refine JL.go trivial (RX.assign) ?_
  refine JL.go trivial (RX.assign) ?_
  refine JL.go trivial (RX.assign) ?_
  refine JL.nil ?_
  refine J.ret3 (v := Value.int _ _) (x := Value.int _ _) (y := Value.int _ _) Tryz.func18 rfl rfl rfl rfl ?_
  exact ⟨_, rfl, rfl, H⟩
theorem ask_e2 {w0 w : World} {F : List Seg} (H : Hp w0 w F) {n : Nat} {prime : Int} (h : 2 < prime) : Ret Tryz.prog 18 [.int .i64 ((n : Nat) : Int), .int .i64 prime] w fun v w' => v = .tuple #[.int .u64 0, .int .u64 0, .int .i64 17] ∧ Hp w0 w' F := by
  refine Calls.of_J (n := 36) Tryz.func18 rfl rfl rfl ?_
  refine J.seq ?_
  refine J.region ?_
  refine JL.go trivial (RX.assign) ?_
  refine JL.go trivial (RX.assign) ?_
  refine JL.go trivial (RX.assign) ?_
  refine JL.nil ?_
  refine J.seq ?_
  refine J.seq ?_
  refine J.region ?_
  refine JL.go trivial (RX.movev (v := Value.int _ _) rfl) ?_
  refine JL.go trivial (RX.lt rfl rfl) ?_
  refine JL.go trivial (RX.movev (v := Value.bool _) rfl) ?_
  refine JL.go ⟨_, rfl, (decide_eq_false (by omega))⟩ (RX.movev (v := Value.int _ _) rfl) ?_
  refine JL.go ⟨_, rfl, (decide_eq_false (by omega))⟩ (RX.gt rfl rfl) ?_
  refine JL.go trivial (RX.pick_f rfl (decide_eq_false (by omega))) ?_
  refine JL.nil ?_
  refine J.cond_t rfl (decide_eq_true (by omega)) ?_
  refine J.seq ?_
  refine J.region ?_
  refine JL.go trivial (RX.assign) ?_
  refine JL.go trivial (RX.assign) ?_
  refine JL.go trivial (RX.assign) ?_
  refine JL.nil ?_
  refine J.ret3 (v := Value.int _ _) (x := Value.int _ _) (y := Value.int _ _) Tryz.func18 rfl rfl rfl rfl ?_
  exact ⟨_, rfl, rfl, H⟩
theorem ask_e3 {w0 w : World} {F : List Seg} (H : Hp w0 w F) {n : Nat} {prime : Int} (h0 : 0 ≤ prime) (h3 : prime ≤ 2) (h : n < 1) : Ret Tryz.prog 18 [.int .i64 ((n : Nat) : Int), .int .i64 prime] w fun v w' => v = .tuple #[.int .u64 0, .int .u64 0, .int .i64 7] ∧ Hp w0 w' F := by
  refine Calls.of_J (n := 36) Tryz.func18 rfl rfl rfl ?_
  refine J.seq ?_
  refine J.region ?_
  refine JL.go trivial (RX.assign) ?_
  refine JL.go trivial (RX.assign) ?_
  refine JL.go trivial (RX.assign) ?_
  refine JL.nil ?_
  refine J.seq ?_
  refine J.seq ?_
  refine J.region ?_
  refine JL.go trivial (RX.movev (v := Value.int _ _) rfl) ?_
  refine JL.go trivial (RX.lt rfl rfl) ?_
  refine JL.go trivial (RX.movev (v := Value.bool _) rfl) ?_
  refine JL.go ⟨_, rfl, (decide_eq_false (by omega))⟩ (RX.movev (v := Value.int _ _) rfl) ?_
  refine JL.go ⟨_, rfl, (decide_eq_false (by omega))⟩ (RX.gt rfl rfl) ?_
  refine JL.go trivial (RX.pick_f rfl (decide_eq_false (by omega))) ?_
  refine JL.nil ?_
  refine J.cond_f rfl (decide_eq_false (by omega)) ?_
  refine J.skip ?_
  refine J.seq ?_
  refine J.seq ?_
  refine J.region ?_
  refine JL.go trivial (RX.movev (v := Value.int _ _) rfl) ?_
  refine JL.go trivial (RX.lt rfl rfl) ?_
  refine JL.go trivial (RX.movev (v := Value.bool _) rfl) ?_
  refine JL.no ⟨_, rfl, gno (decide_eq_true (by omega))⟩ ?_
  refine JL.no ⟨_, rfl, gno (decide_eq_true (by omega))⟩ ?_
  refine JL.go trivial (RX.pick_t rfl (decide_eq_true (by omega))) ?_
  refine JL.nil ?_
  refine J.cond_t rfl rfl ?_
  refine J.seq ?_
  refine J.region ?_
  refine JL.go trivial (RX.assign) ?_
  refine JL.go trivial (RX.assign) ?_
  refine JL.go trivial (RX.assign) ?_
  refine JL.nil ?_
  refine J.ret3 (v := Value.int _ _) (x := Value.int _ _) (y := Value.int _ _) Tryz.func18 rfl rfl rfl rfl ?_
  exact ⟨_, rfl, rfl, H⟩
theorem ask_e4 {w0 w : World} {F : List Seg} (H : Hp w0 w F) {n : Nat} {prime : Int} (h0 : 0 ≤ prime) (h3 : prime ≤ 2) (h : 1024 < n) : Ret Tryz.prog 18 [.int .i64 ((n : Nat) : Int), .int .i64 prime] w fun v w' => v = .tuple #[.int .u64 0, .int .u64 0, .int .i64 7] ∧ Hp w0 w' F := by
  refine Calls.of_J (n := 36) Tryz.func18 rfl rfl rfl ?_
  refine J.seq ?_
  refine J.region ?_
  refine JL.go trivial (RX.assign) ?_
  refine JL.go trivial (RX.assign) ?_
  refine JL.go trivial (RX.assign) ?_
  refine JL.nil ?_
  refine J.seq ?_
  refine J.seq ?_
  refine J.region ?_
  refine JL.go trivial (RX.movev (v := Value.int _ _) rfl) ?_
  refine JL.go trivial (RX.lt rfl rfl) ?_
  refine JL.go trivial (RX.movev (v := Value.bool _) rfl) ?_
  refine JL.go ⟨_, rfl, (decide_eq_false (by omega))⟩ (RX.movev (v := Value.int _ _) rfl) ?_
  refine JL.go ⟨_, rfl, (decide_eq_false (by omega))⟩ (RX.gt rfl rfl) ?_
  refine JL.go trivial (RX.pick_f rfl (decide_eq_false (by omega))) ?_
  refine JL.nil ?_
  refine J.cond_f rfl (decide_eq_false (by omega)) ?_
  refine J.skip ?_
  refine J.seq ?_
  refine J.seq ?_
  refine J.region ?_
  refine JL.go trivial (RX.movev (v := Value.int _ _) rfl) ?_
  refine JL.go trivial (RX.lt rfl rfl) ?_
  refine JL.go trivial (RX.movev (v := Value.bool _) rfl) ?_
  refine JL.go ⟨_, rfl, (decide_eq_false (by omega))⟩ (RX.movev (v := Value.int _ _) rfl) ?_
  refine JL.go ⟨_, rfl, (decide_eq_false (by omega))⟩ (RX.gt rfl rfl) ?_
  refine JL.go trivial (RX.pick_f rfl (decide_eq_false (by omega))) ?_
  refine JL.nil ?_
  refine J.cond_t rfl (decide_eq_true (by omega)) ?_
  refine J.seq ?_
  refine J.region ?_
  refine JL.go trivial (RX.assign) ?_
  refine JL.go trivial (RX.assign) ?_
  refine JL.go trivial (RX.assign) ?_
  refine JL.nil ?_
  refine J.ret3 (v := Value.int _ _) (x := Value.int _ _) (y := Value.int _ _) Tryz.func18 rfl rfl rfl rfl ?_
  exact ⟨_, rfl, rfl, H⟩
theorem ask_e5 {w0 w : World} {F : List Seg} (H : Hp w0 w F) {n : Nat} {p g : Nat} {fs : List Int} (G : GoodP p g fs) {i : Nat} (hi3 : primes3[i]? = some p) (h1 : 1 ≤ n) (h2 : n ≤ 1024) (hd : (p - 1) % n ≠ 0) : Ret Tryz.prog 18 [.int .i64 ((n : Nat) : Int), .int .i64 ((i : Nat) : Int)] w fun v w' => v = .tuple #[.int .u64 0, .int .u64 0, .int .i64 11] ∧ Hp w0 w' F := by
  refine Calls.of_J (n := 36) Tryz.func18 rfl rfl rfl ?_
  refine J.seq ?_
  have hi4 : i < 3 := (List.getElem?_eq_some_iff.1 hi3).1
  refine J.region ?_
  refine JL.go trivial (RX.assign) ?_
  refine JL.go trivial (RX.assign) ?_
  refine JL.go trivial (RX.assign) ?_
  refine JL.nil ?_
  refine J.seq ?_
  refine J.seq ?_
  refine J.region ?_
  refine JL.go trivial (RX.movev (v := Value.int _ _) rfl) ?_
  refine JL.go trivial (RX.lt rfl rfl) ?_
  refine JL.go trivial (RX.movev (v := Value.bool _) rfl) ?_
  refine JL.go ⟨_, rfl, (decide_eq_false (by omega))⟩ (RX.movev (v := Value.int _ _) rfl) ?_
  refine JL.go ⟨_, rfl, (decide_eq_false (by omega))⟩ (RX.gt rfl rfl) ?_
  refine JL.go trivial (RX.pick_f rfl (decide_eq_false (by omega))) ?_
  refine JL.nil ?_
  refine J.cond_f rfl (decide_eq_false (by omega)) ?_
  refine J.skip ?_
  refine J.seq ?_
  refine J.seq ?_
  refine J.region ?_
  refine JL.go trivial (RX.movev (v := Value.int _ _) rfl) ?_
  refine JL.go trivial (RX.lt rfl rfl) ?_
  refine JL.go trivial (RX.movev (v := Value.bool _) rfl) ?_
  refine JL.go ⟨_, rfl, (decide_eq_false (by omega))⟩ (RX.movev (v := Value.int _ _) rfl) ?_
  refine JL.go ⟨_, rfl, (decide_eq_false (by omega))⟩ (RX.gt rfl rfl) ?_
  refine JL.go trivial (RX.pick_f rfl (decide_eq_false (by omega))) ?_
  refine JL.nil ?_
  refine J.cond_f rfl (decide_eq_false (by omega)) ?_
  refine J.skip ?_
  refine J.seq ?_
  refine J.region ?_
  refine JL.does trivial (EX.call rfl cl15 rfl ((rPrimes_b H))) ?_
  rintro _ w ⟨b1, rfl, H⟩
  refine JL.go trivial (RX.movev (v := Value.int _ _) rfl) ?_
  refine JL.go trivial (RX.indexAddr rfl rfl sl22 (by omega) (by omega) (o' := i) (by omega)) ?_
  refine JL.go trivial (RX.load H rfl (i := 0) (v := .int .u64 ((p : Nat) : Int)) rfl (u64sV_get hi3) one24) ?_
  refine JL.go trivial (RX.assignv (v := Value.int _ _) rfl) ?_
  refine JL.nil ?_
  refine J.seq ?_
  refine J.region ?_
  refine JL.go trivial (RX.movev (v := Value.int _ _) rfl) ?_
  refine JL.go trivial (RX.movev (v := Value.int _ _) rfl) ?_
  refine JL.does trivial (EX.call rfl cl34 rfl ((rroot_e H G h1 h2 hd))) ?_
  rintro _ w ⟨rfl, H⟩
  refine JL.go trivial (RX.movev (v := Value.tuple _) rfl) ?_
  refine JL.go trivial (RX.extract rfl rfl) ?_
  refine JL.go trivial (RX.extract rfl rfl) ?_
  refine JL.go trivial (RX.assignv (v := Value.int _ _) rfl) ?_
  refine JL.go trivial (RX.assignv (v := Value.bool _) rfl) ?_
  refine JL.nil ?_
  refine J.seq ?_
  refine J.seq ?_
  refine J.region ?_
  refine JL.go trivial (RX.movev (v := Value.bool _) rfl) ?_
  refine JL.go trivial (RX.not rfl) ?_
  refine JL.nil ?_
  refine J.cond_t rfl rfl ?_
  refine J.seq ?_
  refine J.region ?_
  refine JL.go trivial (RX.assign) ?_
  refine JL.go trivial (RX.assign) ?_
  refine JL.go trivial (RX.assign) ?_
  refine JL.nil ?_
  refine J.ret3 (v := Value.int _ _) (x := Value.int _ _) (y := Value.int _ _) Tryz.func18 rfl rfl rfl rfl ?_
  exact ⟨_, rfl, rfl, H.drop⟩
theorem ask_b {w0 w : World} {F : List Seg} (H : Hp w0 w F) {n : Nat} {p g : Nat} {fs : List Int} (G : GoodP p g fs) {i : Nat} (hi3 : primes3[i]? = some p) (h1 : 1 ≤ n) (h2 : n ≤ 1024) (hd : (p - 1) % n = 0) : Ret Tryz.prog 18 [.int .i64 ((n : Nat) : Int), .int .i64 ((i : Nat) : Int)] w fun v w' => v = .tuple #[.int .u64 ((p : Nat) : Int), .int .u64 ((pw p g ((p - 1) / n) : Nat) : Int), .int .i64 0] ∧ Hp w0 w' F := by
  refine Calls.of_J (n := 36) Tryz.func18 rfl rfl rfl ?_
  refine J.seq ?_
  have hi4 : i < 3 := (List.getElem?_eq_some_iff.1 hi3).1
  refine J.region ?_
  refine JL.go trivial (RX.assign) ?_
  refine JL.go trivial (RX.assign) ?_
  refine JL.go trivial (RX.assign) ?_
  refine JL.nil ?_
  refine J.seq ?_
  refine J.seq ?_
  refine J.region ?_
  refine JL.go trivial (RX.movev (v := Value.int _ _) rfl) ?_
  refine JL.go trivial (RX.lt rfl rfl) ?_
  refine JL.go trivial (RX.movev (v := Value.bool _) rfl) ?_
  refine JL.go ⟨_, rfl, (decide_eq_false (by omega))⟩ (RX.movev (v := Value.int _ _) rfl) ?_
  refine JL.go ⟨_, rfl, (decide_eq_false (by omega))⟩ (RX.gt rfl rfl) ?_
  refine JL.go trivial (RX.pick_f rfl (decide_eq_false (by omega))) ?_
  refine JL.nil ?_
  refine J.cond_f rfl (decide_eq_false (by omega)) ?_
  refine J.skip ?_
  refine J.seq ?_
  refine J.seq ?_
  refine J.region ?_
  refine JL.go trivial (RX.movev (v := Value.int _ _) rfl) ?_
  refine JL.go trivial (RX.lt rfl rfl) ?_
  refine JL.go trivial (RX.movev (v := Value.bool _) rfl) ?_
  refine JL.go ⟨_, rfl, (decide_eq_false (by omega))⟩ (RX.movev (v := Value.int _ _) rfl) ?_
  refine JL.go ⟨_, rfl, (decide_eq_false (by omega))⟩ (RX.gt rfl rfl) ?_
  refine JL.go trivial (RX.pick_f rfl (decide_eq_false (by omega))) ?_
  refine JL.nil ?_
  refine J.cond_f rfl (decide_eq_false (by omega)) ?_
  refine J.skip ?_
  refine J.seq ?_
  refine J.region ?_
  refine JL.does trivial (EX.call rfl cl15 rfl ((rPrimes_b H))) ?_
  rintro _ w ⟨b1, rfl, H⟩
  refine JL.go trivial (RX.movev (v := Value.int _ _) rfl) ?_
  refine JL.go trivial (RX.indexAddr rfl rfl sl22 (by omega) (by omega) (o' := i) (by omega)) ?_
  refine JL.go trivial (RX.load H rfl (i := 0) (v := .int .u64 ((p : Nat) : Int)) rfl (u64sV_get hi3) one24) ?_
  refine JL.go trivial (RX.assignv (v := Value.int _ _) rfl) ?_
  refine JL.nil ?_
  refine J.seq ?_
  refine J.region ?_
  refine JL.go trivial (RX.movev (v := Value.int _ _) rfl) ?_
  refine JL.go trivial (RX.movev (v := Value.int _ _) rfl) ?_
  refine JL.does trivial (EX.call rfl cl34 rfl ((rroot_b H G h1 h2 hd))) ?_
  rintro _ w ⟨rfl, H⟩
  refine JL.go trivial (RX.movev (v := Value.tuple _) rfl) ?_
  refine JL.go trivial (RX.extract rfl rfl) ?_
  refine JL.go trivial (RX.extract rfl rfl) ?_
  refine JL.go trivial (RX.assignv (v := Value.int _ _) rfl) ?_
  refine JL.go trivial (RX.assignv (v := Value.bool _) rfl) ?_
  refine JL.nil ?_
  refine J.seq ?_
  refine J.seq ?_
  refine J.region ?_
  refine JL.go trivial (RX.movev (v := Value.bool _) rfl) ?_
  refine JL.go trivial (RX.not rfl) ?_
  refine JL.nil ?_
  refine J.cond_f rfl rfl ?_
  refine J.skip ?_
  refine J.seq ?_
  refine J.region ?_
  refine JL.go trivial (RX.movev (v := Value.int _ _) rfl) ?_
  refine JL.go trivial (RX.movev (v := Value.int _ _) rfl) ?_
  refine JL.go trivial (RX.assignv (v := Value.int _ _) rfl) ?_
  refine JL.go trivial (RX.assignv (v := Value.int _ _) rfl) ?_
  refine JL.go trivial (RX.assign) ?_
  refine JL.nil ?_
  refine J.ret3 (v := Value.int _ _) (x := Value.int _ _) (y := Value.int _ _) Tryz.func18 rfl rfl rfl rfl ?_
  exact ⟨_, rfl, rfl, H.drop⟩
theorem Ask_b {w0 w : World} {F : List Seg} (H : Hp w0 w F) {n : Nat} {prime : Int} : Ret Tryz.prog 18 [.int .i64 ((n : Nat) : Int), .int .i64 prime] w fun v w' => ((exE n prime ≠ 0 ∧ v = .tuple #[.int .u64 0, .int .u64 0, .int .i64 ((exE n prime : Nat) : Int)]) ∨ (exE n prime = 0 ∧ ∃ p g fs, GoodP p g fs ∧ primes3.getD prime.toNat 0 = p ∧ gens3.getD prime.toNat 0 = g ∧ 1 ≤ n ∧ n ≤ 1024 ∧ (p - 1) % n = 0 ∧ v = .tuple #[.int .u64 ((p : Nat) : Int), .int .u64 ((pw p g ((p - 1) / n) : Nat) : Int), .int .i64 0])) ∧ Hp w0 w' F := by
  by_cases h1 : prime < 0
  · skip
    have he : exE n prime = 17 := by unfold exE; rw [if_pos (.inl h1)]
    rw [he]
    refine Ret.mono (ask_e1 H h1) ?_
    rintro v w' ⟨rfl, H⟩
    exact ⟨.inl ⟨by decide, rfl⟩, H⟩
  by_cases h2 : 2 < prime
  · skip
    have he : exE n prime = 17 := by unfold exE; rw [if_pos (.inr h2)]
    rw [he]
    refine Ret.mono (ask_e2 H h2) ?_
    rintro v w' ⟨rfl, H⟩
    exact ⟨.inl ⟨by decide, rfl⟩, H⟩
  by_cases h3 : n < 1
  · skip
    have he : exE n prime = 7 := by unfold exE; rw [if_neg (by omega), if_pos (.inl h3)]
    rw [he]
    refine Ret.mono (ask_e3 H (by omega) (by omega) h3) ?_
    rintro v w' ⟨rfl, H⟩
    exact ⟨.inl ⟨by decide, rfl⟩, H⟩
  by_cases h4 : 1024 < n
  · skip
    have he : exE n prime = 7 := by unfold exE; rw [if_neg (by omega), if_pos (.inr h4)]
    rw [he]
    refine Ret.mono (ask_e4 H (by omega) (by omega) h4) ?_
    rintro v w' ⟨rfl, H⟩
    exact ⟨.inl ⟨by decide, rfl⟩, H⟩
  obtain ⟨i, rfl⟩ : ∃ i : Nat, prime = (i : Int) := ⟨prime.toNat, by omega⟩
  obtain ⟨p, hp⟩ : ∃ p, primes3[i]? = some p := ⟨_, List.getElem?_eq_getElem (by show i < 3; omega)⟩
  obtain ⟨g, fs, hg, G⟩ := good3s hp
  have heq := exE_ok hp (show 1 ≤ n by omega) (show n ≤ 1024 by omega)
  by_cases h5 : (p - 1) % n = 0
  · rw [if_pos h5] at heq
    refine Ret.mono (ask_b H G hp (by omega) (by omega) h5) ?_
    rintro v w' ⟨rfl, H⟩
    refine ⟨.inr ⟨heq, p, g, fs, G, ?_, ?_, by omega, by omega, h5, rfl⟩, H⟩
    · rw [Int.toNat_natCast, List.getD_eq_getElem?_getD, hp]; rfl
    · rw [Int.toNat_natCast, List.getD_eq_getElem?_getD, hg]; rfl
  · rw [if_neg h5] at heq
    rw [heq]
    refine Ret.mono (ask_e5 H G hp (by omega) (by omega) h5) ?_
    rintro v w' ⟨rfl, H⟩
    exact ⟨.inl ⟨by decide, rfl⟩, H⟩
theorem rForward_e {w0 w : World} {F : List Seg} (H : Hp w0 w F) {xs : List Nat} {px : Option Addr} {c : Nat} (hs : SlAt F px (u64sV xs)) (hx : ∀ x ∈ xs, x < 18446744073709551616) {prime : Int} (he : exE xs.length prime ≠ 0) : Ret Tryz.prog 6 [.slice px xs.length c, .int .i64 prime] w fun v w' => ∃ q c sl, v = .tuple #[.slice q (exL xs prime false).length c, .int .i64 ((exE xs.length prime : Nat) : Int)] ∧ OwnSl 24 1 q (exL xs prime false).length c (u64sV (exL xs prime false)) sl ∧ Hp w0 w' (sl :: F) := by
  refine Calls.of_J (n := 24) Tryz.func6 rfl rfl rfl ?_
  refine J.seq ?_
  refine J.region ?_
  refine JL.go trivial (RX.assign) ?_
  refine JL.go trivial (RX.assign) ?_
  refine JL.nil ?_
  refine J.seq ?_
  refine J.region ?_
  refine JL.go trivial (RX.movev (v := Value.slice _ _ _) rfl) ?_
  refine JL.go trivial (RX.len_slice rfl (by rw [sl22]; rfl) rfl) ?_
  refine JL.go trivial (RX.movev (v := Value.int _ _) rfl) ?_
  refine JL.does trivial (EX.call rfl cl18 rfl ((Ask_b H))) ?_
  rintro _ w ⟨⟨_, rfl⟩ | ⟨h0, _⟩, H⟩
  rotate_left
  · exact absurd h0 he
  refine JL.go trivial (RX.movev (v := Value.tuple _) rfl) ?_
  refine JL.go trivial (RX.extract rfl rfl) ?_
  refine JL.go trivial (RX.extract rfl rfl) ?_
  refine JL.go trivial (RX.extract rfl rfl) ?_
  refine JL.go trivial (RX.assignv (v := Value.int _ _) rfl) ?_
  refine JL.go trivial (RX.assignv (v := Value.int _ _) rfl) ?_
  refine JL.go trivial (RX.assignv (v := Value.int _ _) rfl) ?_
  refine JL.nil ?_
  refine J.seq ?_
  refine J.seq ?_
  refine J.region ?_
  refine JL.go trivial (RX.movev (v := Value.int _ _) rfl) ?_
  refine JL.go trivial (RX.ne rfl rfl) ?_
  refine JL.nil ?_
  refine J.cond_t rfl (decide_eq_true (by omega)) ?_
  refine J.seq ?_
  refine J.region ?_
  refine JL.go trivial (RX.movev (v := Value.int _ _) rfl) ?_
  refine JL.go trivial (RX.assign) ?_
  refine JL.go trivial (RX.assignv (v := Value.int _ _) rfl) ?_
  refine JL.nil ?_
  refine J.ret2 (v := Value.slice _ _ _) (x := Value.int _ _) Tryz.func6 rfl rfl rfl ?_
  have hl : exL xs prime false = [] := by unfold exL; rw [if_neg he]
  rw [hl]
  exact ⟨_, rfl, none, 0, [], rfl, OwnSl.nil, H.nil⟩
theorem rForward_k {w0 w : World} {F : List Seg} (H : Hp w0 w F) {xs : List Nat} {px : Option Addr} {c : Nat} (hs : SlAt F px (u64sV xs)) (hx : ∀ x ∈ xs, x < 18446744073709551616) {prime : Int} (he : exE xs.length prime = 0) : Ret Tryz.prog 6 [.slice px xs.length c, .int .i64 prime] w fun v w' => ∃ q c sl, v = .tuple #[.slice q (exL xs prime false).length c, .int .i64 ((exE xs.length prime : Nat) : Int)] ∧ OwnSl 24 1 q (exL xs prime false).length c (u64sV (exL xs prime false)) sl ∧ Hp w0 w' (sl :: F) := by
  refine Calls.of_J (n := 24) Tryz.func6 rfl rfl rfl ?_
  refine J.seq ?_
  refine J.region ?_
  refine JL.go trivial (RX.assign) ?_
  refine JL.go trivial (RX.assign) ?_
  refine JL.nil ?_
  refine J.seq ?_
  refine J.region ?_
  refine JL.go trivial (RX.movev (v := Value.slice _ _ _) rfl) ?_
  refine JL.go trivial (RX.len_slice rfl (by rw [sl22]; rfl) rfl) ?_
  refine JL.go trivial (RX.movev (v := Value.int _ _) rfl) ?_
  refine JL.does trivial (EX.call rfl cl18 rfl ((Ask_b H))) ?_
  rintro _ w ⟨⟨h0, _⟩ | ⟨_, p, g, fs, G, hp, hg, h1, h2, hd, rfl⟩, H⟩
  · exact absurd he h0
  have hlo := G.lo
  have hhi := G.hi
  have hR := pw_lt (show 0 < p by omega) g ((p - 1) / xs.length)
  refine JL.go trivial (RX.movev (v := Value.tuple _) rfl) ?_
  refine JL.go trivial (RX.extract rfl rfl) ?_
  refine JL.go trivial (RX.extract rfl rfl) ?_
  refine JL.go trivial (RX.extract rfl rfl) ?_
  refine JL.go trivial (RX.assignv (v := Value.int _ _) rfl) ?_
  refine JL.go trivial (RX.assignv (v := Value.int _ _) rfl) ?_
  refine JL.go trivial (RX.assignv (v := Value.int _ _) rfl) ?_
  refine JL.nil ?_
  refine J.seq ?_
  refine J.seq ?_
  refine J.region ?_
  refine JL.go trivial (RX.movev (v := Value.int _ _) rfl) ?_
  refine JL.go trivial (RX.ne rfl rfl) ?_
  refine JL.nil ?_
  refine J.cond_f rfl (decide_eq_false (fun h => h rfl)) ?_
  refine J.skip ?_
  refine J.seq ?_
  refine J.region ?_
  refine JL.go trivial (RX.movev (v := Value.slice _ _ _) rfl) ?_
  refine JL.go trivial (RX.movev (v := Value.int _ _) rfl) ?_
  refine JL.go trivial (RX.movev (v := Value.int _ _) rfl) ?_
  refine JL.does trivial (EX.call rfl cl19 rfl ((rsums_b H hs hx h2 (by omega) hhi hR))) ?_
  rintro _ w ⟨q, c', sl, rfl, ho, H⟩
  refine JL.go trivial (RX.assignv (v := Value.slice _ _ _) rfl) ?_
  refine JL.go trivial (RX.assign) ?_
  refine JL.nil ?_
  refine J.ret2 (v := Value.slice _ _ _) (x := Value.int _ _) Tryz.func6 rfl rfl rfl ?_
  have hl : exL xs prime false = dft p (pw p g ((p - 1) / xs.length)) xs := by unfold exL; rw [if_pos he, hp, hg, tr_forth G hd]
  rw [hl, he]
  exact ⟨_, rfl, q, c', sl, rfl, ho, H⟩
theorem rInverse_e {w0 w : World} {F : List Seg} (H : Hp w0 w F) {xs : List Nat} {px : Option Addr} {c : Nat} (hs : SlAt F px (u64sV xs)) (hx : ∀ x ∈ xs, x < 18446744073709551616) {prime : Int} (he : exE xs.length prime ≠ 0) : Ret Tryz.prog 10 [.slice px xs.length c, .int .i64 prime] w fun v w' => ∃ q c sl, v = .tuple #[.slice q (exL xs prime true).length c, .int .i64 ((exE xs.length prime : Nat) : Int)] ∧ OwnSl 24 1 q (exL xs prime true).length c (u64sV (exL xs prime true)) sl ∧ Hp w0 w' (sl :: F) := by
  refine Calls.of_J (n := 58) Tryz.func10 rfl rfl rfl ?_
  refine J.seq ?_
  refine J.region ?_
  refine JL.go trivial (RX.assign) ?_
  refine JL.go trivial (RX.assign) ?_
  refine JL.nil ?_
  refine J.seq ?_
  refine J.region ?_
  refine JL.go trivial (RX.movev (v := Value.slice _ _ _) rfl) ?_
  refine JL.go trivial (RX.len_slice rfl (by rw [sl22]; rfl) rfl) ?_
  refine JL.go trivial (RX.movev (v := Value.int _ _) rfl) ?_
  refine JL.does trivial (EX.call rfl cl18 rfl ((Ask_b H))) ?_
  rintro _ w ⟨⟨_, rfl⟩ | ⟨h0, _⟩, H⟩
  rotate_left
  · exact absurd h0 he
  refine JL.go trivial (RX.movev (v := Value.tuple _) rfl) ?_
  refine JL.go trivial (RX.extract rfl rfl) ?_
  refine JL.go trivial (RX.extract rfl rfl) ?_
  refine JL.go trivial (RX.extract rfl rfl) ?_
  refine JL.go trivial (RX.assignv (v := Value.int _ _) rfl) ?_
  refine JL.go trivial (RX.assignv (v := Value.int _ _) rfl) ?_
  refine JL.go trivial (RX.assignv (v := Value.int _ _) rfl) ?_
  refine JL.nil ?_
  refine J.seq ?_
  refine J.seq ?_
  refine J.region ?_
  refine JL.go trivial (RX.movev (v := Value.int _ _) rfl) ?_
  refine JL.go trivial (RX.ne rfl rfl) ?_
  refine JL.nil ?_
  refine J.cond_t rfl (decide_eq_true (by omega)) ?_
  refine J.seq ?_
  refine J.region ?_
  refine JL.go trivial (RX.movev (v := Value.int _ _) rfl) ?_
  refine JL.go trivial (RX.assign) ?_
  refine JL.go trivial (RX.assignv (v := Value.int _ _) rfl) ?_
  refine JL.nil ?_
  refine J.ret2 (v := Value.slice _ _ _) (x := Value.int _ _) Tryz.func10 rfl rfl rfl ?_
  have hl : exL xs prime true = [] := by unfold exL; rw [if_neg he]
  rw [hl]
  exact ⟨_, rfl, none, 0, [], rfl, OwnSl.nil, H.nil⟩
theorem rInverse_k {w0 w : World} {F : List Seg} (H : Hp w0 w F) {xs : List Nat} {px : Option Addr} {c : Nat} (hs : SlAt F px (u64sV xs)) (hx : ∀ x ∈ xs, x < 18446744073709551616) {prime : Int} (he : exE xs.length prime = 0) : Ret Tryz.prog 10 [.slice px xs.length c, .int .i64 prime] w fun v w' => ∃ q c sl, v = .tuple #[.slice q (exL xs prime true).length c, .int .i64 ((exE xs.length prime : Nat) : Int)] ∧ OwnSl 24 1 q (exL xs prime true).length c (u64sV (exL xs prime true)) sl ∧ Hp w0 w' (sl :: F) := by
  refine Calls.of_J (n := 58) Tryz.func10 rfl rfl rfl ?_
  refine J.seq ?_
  refine J.region ?_
  refine JL.go trivial (RX.assign) ?_
  refine JL.go trivial (RX.assign) ?_
  refine JL.nil ?_
  refine J.seq ?_
  refine J.region ?_
  refine JL.go trivial (RX.movev (v := Value.slice _ _ _) rfl) ?_
  refine JL.go trivial (RX.len_slice rfl (by rw [sl22]; rfl) rfl) ?_
  refine JL.go trivial (RX.movev (v := Value.int _ _) rfl) ?_
  refine JL.does trivial (EX.call rfl cl18 rfl ((Ask_b H))) ?_
  rintro _ w ⟨⟨h0, _⟩ | ⟨_, p, g, fs, G, hp, hg, h1, h2, hd, rfl⟩, H⟩
  · exact absurd he h0
  have hlo := G.lo
  have hhi := G.hi
  have hR := pw_lt (show 0 < p by omega) g ((p - 1) / xs.length)
  refine JL.go trivial (RX.movev (v := Value.tuple _) rfl) ?_
  refine JL.go trivial (RX.extract rfl rfl) ?_
  refine JL.go trivial (RX.extract rfl rfl) ?_
  refine JL.go trivial (RX.extract rfl rfl) ?_
  refine JL.go trivial (RX.assignv (v := Value.int _ _) rfl) ?_
  refine JL.go trivial (RX.assignv (v := Value.int _ _) rfl) ?_
  refine JL.go trivial (RX.assignv (v := Value.int _ _) rfl) ?_
  refine JL.nil ?_
  refine J.seq ?_
  refine J.seq ?_
  refine J.region ?_
  refine JL.go trivial (RX.movev (v := Value.int _ _) rfl) ?_
  refine JL.go trivial (RX.ne rfl rfl) ?_
  refine JL.nil ?_
  refine J.cond_f rfl (decide_eq_false (fun h => h rfl)) ?_
  refine J.skip ?_
  refine J.seq ?_
  refine J.region ?_
  refine JL.go trivial (RX.movev (v := Value.int _ _) rfl) ?_
  refine JL.go trivial (RX.movev (v := Value.int _ _) rfl) ?_
  refine JL.go trivial (RX.sub rfl rfl (wn (n := p - 2) (by omega) (by omega))) ?_
  refine JL.go trivial (RX.movev (v := Value.int _ _) rfl) ?_
  refine JL.does trivial (EX.call rfl cl21 rfl ((rPow_b H (by omega) (by omega) (by omega) hhi))) ?_
  rintro _ w ⟨rfl, H⟩
  refine JL.go trivial (RX.assignv (v := Value.int _ _) rfl) ?_
  refine JL.nil ?_
  refine J.seq ?_
  refine J.region ?_
  refine JL.go trivial (RX.movev (v := Value.slice _ _ _) rfl) ?_
  refine JL.go trivial (RX.len_slice rfl (by rw [sl22]; rfl) rfl) ?_
  refine JL.go trivial (RX.conv rfl (by rw [ki3]; rfl) ki24 (wn rfl (by omega))) ?_
  refine JL.go trivial (RX.movev (v := Value.int _ _) rfl) ?_
  refine JL.go trivial (RX.sub rfl rfl (wn (n := p - 2) (by omega) (by omega))) ?_
  refine JL.go trivial (RX.movev (v := Value.int _ _) rfl) ?_
  refine JL.does trivial (EX.call rfl cl21 rfl ((rPow_b H (by omega) (by omega) (by omega) hhi))) ?_
  rintro _ w ⟨rfl, H⟩
  refine JL.go trivial (RX.assignv (v := Value.int _ _) rfl) ?_
  refine JL.nil ?_
  refine J.seq ?_
  have hbl := pw_lt (show 0 < p by omega) (pw p g ((p - 1) / xs.length)) (p - 2)
  generalize hb : pw p (pw p g ((p - 1) / xs.length)) (p - 2) = b at hbl ⊢
  have hpl := pw_lt (show 0 < p by omega) xs.length (p - 2)
  generalize hpt : pw p xs.length (p - 2) = part at hpl ⊢
  refine J.region ?_
  refine JL.go trivial (RX.movev (v := Value.slice _ _ _) rfl) ?_
  refine JL.go trivial (RX.movev (v := Value.int _ _) rfl) ?_
  refine JL.go trivial (RX.movev (v := Value.int _ _) rfl) ?_
  refine JL.does trivial (EX.call rfl cl19 rfl ((rsums_b H hs hx h2 (by omega) hhi hbl))) ?_
  rintro _ w ⟨q, c', sl, rfl, ho, H⟩
  have hdl := dft_len p b xs
  obtain ⟨bq, l, rfl, rfl, _, hll, _⟩ := ho.ptr (by omega)
  have hcl := ho.le
  refine JL.go trivial (RX.assignv (v := Value.slice _ _ _) rfl) ?_
  refine JL.nil ?_
  refine J.seq ?_
  refine J.seq ?_
  refine J.region ?_
  refine JL.go trivial (RX.movev (v := Value.slice _ _ _) rfl) ?_
  refine JL.go trivial (RX.len_slice rfl (by rw [sl22]; rfl) rfl) ?_
  refine JL.go trivial (RX.move) ?_
  refine JL.nil ?_
  refine J.block ?_
  refine J.loop (ι := Nat × List Nat × List Value) (S := fun z => [(43, .int .i64 ((z.1 : Nat) : Int))]) (Φ := fun z w => z.1 ≤ xs.length ∧ Row z.2.1 xs.length (fun j => if j < z.1 then sm p xs (fun i => pw p b (j * i)) xs.length * part % p else sm p xs (fun i => pw p b (j * i)) xs.length) ∧ z.2.2.length = c' * 1 ∧ OwnSl 24 1 (some ⟨bq, 0, none⟩) (dft p b xs).length c' (u64sV z.2.1) [(bq, cel z.2.2 24)] ∧ Hp w0 w ([(bq, cel z.2.2 24)] :: F)) (μ := fun z => xs.length - z.1) (C := [(6, _), (10, _), (11, _), (41, _), (42, _)]) (0, dft p b xs, l) ⟨rfl, rfl, rfl, rfl, rfl, trivial⟩ ⟨rfl, trivial⟩ ?_ ?_
  · exact ⟨by simp, ⟨hdl, fun j hj => by rw [dft_get hj]; simp⟩, hll, ho, H⟩
  clear H ho hll
  rintro ⟨i, ys, l⟩ ρ w ⟨hi, hy, hll, ho, H⟩ IH
  simp only at hi hy hll ho H
  dsimp only
  refine J.seq ?_
  refine J.region ?_
  refine JL.go trivial (RX.lt rfl rfl) ?_
  refine JL.nil ?_
  refine J.seq ?_
  refine J.cond_d rfl (fun hlt => ?_) (fun hlt => ?_)
  · skip
    have hyi : ys[i]? = some (sm p xs (fun j => pw p b (i * j)) xs.length) := by rw [hy.2 i (by omega)]; simp
    have hsl := sm_lt (show 0 < p by omega) xs (fun j => pw p b (i * j)) xs.length
    have hmm := mul_lt32 (show sm p xs (fun j => pw p b (i * j)) xs.length < 4294967296 by omega) (show part < 4294967296 by omega)
    have hml := Nat.mod_lt (sm p xs (fun j => pw p b (i * j)) xs.length * part) (show 0 < p by omega)
    refine J.skip ?_
    refine J.seq ?_
    refine J.block ?_
    refine J.seq ?_
    refine J.region ?_
    refine JL.go trivial (RX.movev (v := Value.int _ _) rfl) ?_
    refine JL.go trivial (RX.indexAddr rfl rfl sl22 (by omega) (by omega) (o' := i) (by omega)) ?_
    refine JL.go trivial (RX.loadS H ho.slAt rfl (j := i) (by omega) (u64sV_get hyi) one24) ?_
    refine JL.go trivial (RX.assignv (v := Value.int _ _) rfl) ?_
    refine JL.go trivial (RX.assignv (v := Value.int _ _) rfl) ?_
    refine JL.nil ?_
    refine J.region ?_
    refine JL.go trivial (RX.movev (v := Value.slice _ _ _) rfl) ?_
    refine JL.go trivial (RX.movev (v := Value.int _ _) rfl) ?_
    refine JL.go trivial (RX.movev (v := Value.int _ _) rfl) ?_
    refine JL.go trivial (RX.movev (v := Value.int _ _) rfl) ?_
    refine JL.go trivial (RX.mul rfl rfl (wn (by rw [Int.natCast_mul]) hmm)) ?_
    refine JL.go trivial (RX.movev (v := Value.int _ _) rfl) ?_
    refine JL.go trivial (RX.rem rfl rfl (by omega) rem_nat) ?_
    refine JL.go trivial (RX.indexAddr rfl rfl sl22 (by omega) (by omega) (o' := i) (by omega)) ?_
    refine JL.does trivial (EX.store (v := Value.int _ _) H rfl rfl (i := 0) rfl rfl (by omega) sz24 rfl rfl) ?_
    rintro _ w H
    refine JL.nil ?_
    refine J.inBlock ?_
    refine J.region ?_
    refine JL.go trivial (RX.add rfl rfl (wi (n := i + 1) (by omega) (by omega))) ?_
    refine JL.go trivial (RX.movev (v := Value.int _ _) rfl) ?_
    refine JL.nil ?_
    have ho2 := ho.set (o := i) (v := .int .u64 ((sm p xs (fun j => pw p b (i * j)) xs.length * part % p : Nat) : Int))
    rw [← u64sV_set] at ho2
    refine IH (i + 1, ys.set i (sm p xs (fun j => pw p b (i * j)) xs.length * part % p), _) _ _ (by simp only; omega) ⟨rfl, rfl, rfl, rfl, rfl, trivial⟩ ⟨rfl, trivial⟩ ⟨by simp only; omega, (hy.set (by omega)).ext fun j hj => ?_, by simp only [List.length_set]; exact hll, ho2, H⟩
    simp only
    by_cases e : j = i
    · subst e; rw [if_pos rfl, if_pos (by omega)]
    · rw [if_neg e]
      by_cases h : j < i
      · rw [if_pos h, if_pos (by omega)]
      · rw [if_neg h, if_neg (by omega)]
  · skip
    have hie : i = xs.length := by omega
    subst hie
    refine J.exit rfl ?_
    refine J.seq ?_
    refine J.region ?_
    refine JL.go trivial (RX.movev (v := Value.slice _ _ _) rfl) ?_
    refine JL.go trivial (RX.assignv (v := Value.slice _ _ _) rfl) ?_
    refine JL.go trivial (RX.assign) ?_
    refine JL.nil ?_
    refine J.ret2 (v := Value.slice _ _ _) (x := Value.int _ _) Tryz.func10 rfl rfl rfl ?_
    have hl : exL xs prime true = ys := by
      rw [(hy.ext (g := fun j => sm p xs (fun i => pw p b (j * i)) xs.length * part % p) fun j hj => if_pos hj).eq]
      unfold exL
      rw [if_pos he, hp, hg, tr_back G hd, hb, hpt]
      unfold dft
      rw [List.map_map]; rfl
    have hyl : ys.length = (dft p b xs).length := by rw [hy.1, hdl]
    rw [hl, he, hyl]
    exact ⟨_, rfl, _, c', _, rfl, ho, H⟩
theorem rForward_b {w0 w : World} {F : List Seg} (H : Hp w0 w F) {xs : List Nat} {px : Option Addr} {c : Nat} (hs : SlAt F px (u64sV xs)) (hx : ∀ x ∈ xs, x < 18446744073709551616) {prime : Int} : Ret Tryz.prog 6 [.slice px xs.length c, .int .i64 prime] w fun v w' => ∃ q c sl, v = .tuple #[.slice q (exL xs prime false).length c, .int .i64 ((exE xs.length prime : Nat) : Int)] ∧ OwnSl 24 1 q (exL xs prime false).length c (u64sV (exL xs prime false)) sl ∧ Hp w0 w' (sl :: F) := by
  by_cases he : exE xs.length prime = 0
  · exact rForward_k H hs hx he
  · exact rForward_e H hs hx he
theorem rInverse_b {w0 w : World} {F : List Seg} (H : Hp w0 w F) {xs : List Nat} {px : Option Addr} {c : Nat} (hs : SlAt F px (u64sV xs)) (hx : ∀ x ∈ xs, x < 18446744073709551616) {prime : Int} : Ret Tryz.prog 10 [.slice px xs.length c, .int .i64 prime] w fun v w' => ∃ q c sl, v = .tuple #[.slice q (exL xs prime true).length c, .int .i64 ((exE xs.length prime : Nat) : Int)] ∧ OwnSl 24 1 q (exL xs prime true).length c (u64sV (exL xs prime true)) sl ∧ Hp w0 w' (sl :: F) := by
  by_cases he : exE xs.length prime = 0
  · exact rInverse_k H hs hx he
  · exact rInverse_e H hs hx he
end Go.Proofs.YtfdghjlfplhpjaaGreatDoor
