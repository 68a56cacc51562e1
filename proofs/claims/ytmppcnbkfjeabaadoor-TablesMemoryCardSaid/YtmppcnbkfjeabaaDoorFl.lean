/- Floats, and the roots of unity as they are reckoned. -/
import Derived.Test.YtmppcnbkfjeabaaDoorLw
namespace Go.Proofs.YtmppcnbkfjeabaaDoor
open Go Go.Eng
set_option maxRecDepth 100000
set_option linter.unusedVariables false
set_option linter.unusedSimpArgs false
theorem ar109 : arrayOf Tryd.prog 109 = some (9, 71, 1) := by kernel_rfl
theorem cl14 : callable Tryd.prog 14 = true := by kernel_rfl
theorem cl28 : callable Tryd.prog 28 = true := by kernel_rfl
theorem cl29 : callable Tryd.prog 29 = true := by kernel_rfl
theorem cl40 : callable Tryd.prog 40 = true := by kernel_rfl
theorem cl41 : callable Tryd.prog 41 = true := by kernel_rfl
theorem cl60 : callable Tryd.prog 60 = true := by kernel_rfl
theorem ext59 : ExtIs Tryd.prog 59 Extern.MathFloatBits.float64frombits := ⟨_, Tryd.func59, by decide, by decide, by kernel_rfl, by kernel_rfl⟩
theorem one71 : oneOf Tryd.prog 71 = true := by kernel_rfl
theorem sl31 : sliceOf Tryd.prog 31 = some (26, 1) := by kernel_rfl
theorem sz26 : szOf Tryd.prog 26 = some 1 := by kernel_rfl
theorem sz71 : szOf Tryd.prog 71 = some 1 := by kernel_rfl
theorem ud3 : Tryd.prog.underlying 3 = some (.int .i64) := by kernel_rfl
theorem ud71 : Tryd.prog.underlying 71 = some (.float .f64) := by kernel_rfl
theorem zr109 : (Tryd.prog.info? 109).bind (·.zero) = some (.agg #[.float .f64 0, .float .f64 0, .float .f64 0, .float .f64 0, .float .f64 0, .float .f64 0, .float .f64 0, .float .f64 0, .float .f64 0]) := by kernel_rfl

def one64 : Nat := 4607182418800017408
def twoPi64 : Nat := 4618760256179416344
def half64 : Nat := 4604544271217802189
def factN : Nat → Nat
  | 0 => one64
  | m + 1 => fo .mul (factN m) (fint ((m + 1 : Nat) : Int))
theorem cn_one : cn one64 = one64 := by decide
theorem factN_cn : ∀ m, cn (factN m) = factN m
  | 0 => cn_one
  | m + 1 => fo_cn _ _ _
def coef (fst j : Nat) : Nat := fo .quo one64 (factN (2 * j + fst))
theorem coef_cn (fst j : Nat) : cn (coef fst j) = coef fst j := fo_cn _ _ _
def hornN (y fst : Nat) : Nat → Nat
  | 0 => coef fst 8
  | i + 1 => fo .sub (coef fst (7 - i)) (fo .mul y (hornN y fst i))
theorem hornN_cn (y fst : Nat) : ∀ i, cn (hornN y fst i) = hornN y fst i
  | 0 => coef_cn _ _
  | i + 1 => fo_cn _ _ _
theorem hornN_al {y y' : Nat} (h : cn y = cn y') (fst : Nat) : ∀ i, hornN y fst i = hornN y' fst i
  | 0 => rfl
  | i + 1 => by rw [hornN, hornN, hornN_al h fst i, fo_al .mul h rfl]
theorem fact_one : factN 1 = one64 := by decide +kernel
theorem coef_zero : coef 0 0 = one64 := by decide +kernel
def eighthN (r n : Int) : Nat × Nat :=
  if r = 0 then (one64, 0) else if 8 * r = n then (half64, half64) else
    (hornN (fo .mul (fo .quo (fo .mul twoPi64 (fint r)) (fint n)) (fo .quo (fo .mul twoPi64 (fint r)) (fint n))) 0 8,
     fo .mul (fo .quo (fo .mul twoPi64 (fint r)) (fint n)) (hornN (fo .mul (fo .quo (fo .mul twoPi64 (fint r)) (fint n)) (fo .quo (fo .mul twoPi64 (fint r)) (fint n))) 1 8))
def rotN : Nat → Nat × Nat → Nat × Nat
  | 0, p => p
  | q + 1, p => ((cn (fneg (rotN q p).2)), (rotN q p).1)
def plusN (x : Nat) : Nat := if ford x 0 == some .eq then 0 else cn x
theorem plusN_al {x y : Nat} (h : cn x = cn y) : plusN x = plusN y := by unfold plusN; rw [ford_al h rfl, h]
theorem plusN_cn (x : Nat) : cn (plusN x) = plusN x := by
  unfold plusN
  split
  · decide
  · exact cn_cn x
def halfN (n k4 : Int) : Nat × Nat := if 2 * (k4 % n) ≤ n then eighthN (k4 % n) (4 * n) else ((eighthN (n - k4 % n) (4 * n)).2, (eighthN (n - k4 % n) (4 * n)).1)
def pairN (n k : Int) : Nat × Nat := (plusN (rotN (4 * (k % n) / n).toNat (halfN n (4 * (k % n)))).1, plusN (rotN (4 * (k % n) / n).toNat (halfN n (4 * (k % n)))).2)
def rootN (n k : Int) : Nat × Nat := ((pairN n k).1, plusN (fneg (pairN n k).2))
theorem pairN_mod (n k : Int) : pairN n (k % n) = pairN n k := by unfold pairN; rw [Int.emod_emod_of_dvd k (Int.dvd_refl n)]
theorem rootN_mod (n k : Int) : rootN n (k % n) = rootN n k := by unfold rootN; rw [pairN_mod]
theorem tmod_up {n k : Int} (hn : 0 < n) : (k.tmod n + n).tmod n = k % n := by
  have h1 := Int.tmod_lt_of_pos k hn
  have h2 : -n < k.tmod n := by
    have := Int.lt_tmod_of_pos k hn
    omega
  rw [Int.tmod_eq_emod_of_nonneg (by omega), Int.add_emod_right]
  rw [Int.tmod_def, Int.sub_emod, Int.mul_emod_right, Int.sub_zero, Int.emod_emod_of_dvd k (Int.dvd_refl n)]
theorem eighthN_cn (r n : Int) : cn (eighthN r n).1 = (eighthN r n).1 ∧ cn (eighthN r n).2 = (eighthN r n).2 := by
  unfold eighthN
  split
  · decide
  · split
    · decide
    · exact ⟨hornN_cn _ _ _, fo_cn _ _ _⟩

theorem fl_get {xs : List Nat} {j x : Nat} (h : xs[j]? = some x) : (xs.map (Value.float .f64))[j]? = some (.float .f64 x) := by simp [h]
theorem set_get {xs : List Nat} {i j x : Nat} (h : i < xs.length) : (xs.set i x)[j]? = if i = j then some x else xs[j]? := by
  rw [List.getElem?_set]
  split
  · simp_all
  · rfl
theorem horner_b {w0 w : World} {F : List Seg} (H : Hp w0 w F) {y fst : Nat} (hf : fst ≤ 1) : Ret Tryd.prog 60 [.float .f64 y, .int .i64 (fst : Nat)] w fun v w' => ∃ r, v = .float .f64 r ∧ cn r = hornN y fst 8 ∧ Hp w0 w' F := by
  refine Calls.of_J (n := 55) Tryd.func60 rfl rfl rfl ?_
  refine J.seq ?_
  refine J.region ?_
  refine JL.go trivial (RX.assign) ?_
  refine JL.nil ?_
  refine J.seq ?_
  refine J.region ?_
  refine JL.does trivial (EX.alloc H zr109 rfl) ?_
  rintro _ w ⟨b5, rfl, H⟩
  refine JL.nil ?_
  refine J.seq ?_
  refine J.region ?_
  refine JL.go trivial (RX.assign) ?_
  refine JL.nil ?_
  refine J.seq ?_
  refine J.seq ?_
  refine J.region ?_
  refine JL.go trivial (RX.assign) ?_
  refine JL.nil ?_
  refine J.block ?_
  refine J.loop (ι := Nat × Nat × List Nat) (S := fun z => [(7, .int .i64 (z.1 : Nat)), (6, .float .f64 z.2.1)]) (Φ := fun z w => 1 ≤ z.1 ∧ z.1 ≤ 17 + fst ∧ cn z.2.1 = factN (z.1 - 1) ∧ z.2.2.length = 9 ∧ (∀ j, 1 ≤ 2 * j + fst → 2 * j + fst < z.1 → ∃ x, z.2.2[j]? = some x ∧ cn x = coef fst j) ∧ Hp w0 w ([(b5, cel ((z.2.2).map (Value.float .f64)) 109)] :: F)) (μ := fun z => 20 - z.1) (C := [(0, _), (1, _), (5, _)]) (1, one64, List.replicate 9 0) ⟨rfl, rfl, rfl, trivial⟩ ⟨rfl, rfl, trivial⟩ ?_ ?_
  · exact ⟨by simp, by simp only; omega, cn_one, by simp, fun j h1 h2 => by simp only at h2; omega, H⟩
  clear H
  rintro ⟨m, f, xs⟩ ρ w ⟨h1, h2, h3, h4, h5, H⟩ IH
  simp only at h1 h2 h3 h4 h5 H
  dsimp only
  refine J.seq ?_
  refine J.seq ?_
  refine J.region ?_
  refine JL.go trivial (RX.movev (v := Value.int _ _) rfl) ?_
  refine JL.go trivial (RX.movev (v := Value.int _ _) rfl) ?_
  refine JL.go trivial (RX.add rfl rfl (w_i64 (r := ((18 + fst : Nat) : Int)) (by omega) (by omega) (by omega))) ?_
  refine JL.go trivial (RX.sub rfl rfl (w_i64 (r := ((17 + fst : Nat) : Int)) (by omega) (by omega) (by omega))) ?_
  refine JL.go trivial (RX.lt rfl rfl) ?_
  refine JL.nil ?_
  refine J.cond_d rfl (fun hlt => ?_) (fun hlt => ?_)
  · skip
    refine J.skip ?_
    refine J.seq ?_
    refine J.block ?_
    refine J.seq ?_
    refine J.region ?_
    refine JL.go trivial (RX.movev (v := Value.float _ _) rfl) ?_
    refine JL.go trivial (RX.movev (v := Value.int _ _) rfl) ?_
    refine JL.go trivial (RX.i2f rfl ud3 ud71) ?_
    refine JL.does trivial (EX.farith (.inr (.inr (.inl rfl))) H rfl rfl) ?_
    rintro _ w ⟨q, rfl, hq, H⟩
    refine JL.go trivial (RX.assignv (v := Value.float _ _) rfl) ?_
    have hq2 : cn q = factN m := by
      obtain ⟨m1, rfl⟩ : ∃ m1, m = m1 + 1 := ⟨m - 1, by omega⟩
      rw [hq, factN]
      exact fo_al .mul (by rw [h3, factN_cn]; rfl) rfl
    refine JL.nil ?_
    refine J.seq ?_
    refine J.region ?_
    refine JL.go trivial (RX.movev (v := Value.int _ _) rfl) ?_
    refine JL.go trivial (RX.movev (v := Value.int _ _) rfl) ?_
    refine JL.go trivial (RX.ge rfl rfl) ?_
    refine JL.go trivial (RX.movev (v := Value.bool _) rfl) ?_
    refine JL.splitS 24 rfl (fun hg => ?_) (fun hg => ?_)
    · skip
      first | have hgp := of_decide_eq_true hg | skip
      have hge : fst ≤ m := by have := of_decide_eq_true hg; omega
      refine JL.go ⟨_, rfl, hg⟩ (RX.movev (v := Value.int _ _) rfl) ?_
      refine JL.go ⟨_, rfl, hg⟩ (RX.movev (v := Value.int _ _) rfl) ?_
      refine JL.go ⟨_, rfl, hg⟩ (RX.sub rfl rfl (w_i64 (r := ((m - fst : Nat) : Int)) (by omega) (by omega) (by omega))) ?_
      refine JL.go ⟨_, rfl, hg⟩ (RX.rem rfl rfl (by decide) (r := (((m - fst) % 2 : Nat) : Int)) (by rw [Int.tmod_eq_emod_of_nonneg (by omega)]; omega)) ?_
      refine JL.go ⟨_, rfl, hg⟩ (RX.eq rfl rfl) ?_
      refine JL.go trivial (RX.pick_t rfl hg) ?_
      refine JL.nil ?_
      refine J.cond_d rfl (fun hev => ?_) (fun hev => ?_)
      · skip
        obtain ⟨j, hj⟩ : ∃ j, m = 2 * j + fst := ⟨(m - fst) / 2, by omega⟩
        refine J.region ?_
        refine JL.go trivial (RX.movev (v := Value.int _ _) rfl) ?_
        refine JL.go trivial (RX.movev (v := Value.int _ _) rfl) ?_
        refine JL.go trivial (RX.sub rfl rfl (w_i64 (r := ((2 * j : Nat) : Int)) (by omega) (by omega) (by omega))) ?_
        refine JL.go trivial (RX.quo rfl rfl (by decide) (w_i64 (r := (j : Int)) (by rw [Int.tdiv_eq_ediv_of_nonneg (by omega)]; omega) (by omega) (by omega))) ?_
        refine JL.go trivial (RX.movev (v := Value.float _ _) rfl) ?_
        refine JL.does trivial (EX.farith (.inr (.inr (.inr rfl))) H rfl rfl) ?_
        rintro _ w ⟨c, rfl, hc, H⟩
        refine JL.go trivial (RX.indexArr rfl rfl ar109 (by omega) (by omega) (o' := j) (by omega)) ?_
        refine JL.does trivial (EX.store (v := Value.float _ _) H rfl rfl (i := 0) rfl rfl (by rw [List.length_map, h4]; omega) sz71 rfl rfl) ?_
        rintro _ w H
        refine JL.nil ?_
        refine J.inBlock ?_
        refine J.region ?_
        refine JL.go trivial (RX.movev (v := Value.int _ _) rfl) ?_
        refine JL.go trivial (RX.add rfl rfl (w_i64 (r := ((m + 1 : Nat) : Int)) (by omega) (by omega) (by omega))) ?_
        refine JL.go trivial (RX.assignv (v := Value.int _ _) rfl) ?_
        refine JL.nil ?_
        rw [← List.map_set] at H
        refine IH (m + 1, q, xs.set j c) _ _ (by simp only; omega) ⟨rfl, rfl, rfl, trivial⟩ ⟨rfl, rfl, trivial⟩ ⟨by simp only; omega, by simp only; omega, hq2, by simp only [List.length_set]; exact h4, fun i hi1 hi2 => ?_, H⟩
        simp only at hi2 ⊢
        rw [set_get (by omega)]
        by_cases hij : j = i
        · subst hij
          rw [if_pos rfl]
          refine ⟨c, rfl, hc.trans ?_⟩
          exact fo_al .quo rfl (by rw [hq2, ← hj, factN_cn])
        · rw [if_neg hij]
          exact h5 i hi1 (by omega)
      · skip
        refine J.skip ?_
        refine J.inBlock ?_
        refine J.region ?_
        refine JL.go trivial (RX.movev (v := Value.int _ _) rfl) ?_
        refine JL.go trivial (RX.add rfl rfl (w_i64 (r := ((m + 1 : Nat) : Int)) (by omega) (by omega) (by omega))) ?_
        refine JL.go trivial (RX.assignv (v := Value.int _ _) rfl) ?_
        refine JL.nil ?_
        exact IH (m + 1, q, xs) _ _ (by simp only; omega) ⟨rfl, rfl, rfl, trivial⟩ ⟨rfl, rfl, trivial⟩ ⟨by simp only; omega, by simp only; omega, hq2, h4, fun i hi1 hi2 => h5 i hi1 (by simp only at hi2; omega), H⟩
    · skip
      first | have hgp := of_decide_eq_false hg | skip
      have hge : ¬ fst ≤ m := by have := of_decide_eq_false hg; omega
      refine JL.no ⟨_, rfl, gno hg⟩ ?_
      refine JL.no ⟨_, rfl, gno hg⟩ ?_
      refine JL.no ⟨_, rfl, gno hg⟩ ?_
      refine JL.no ⟨_, rfl, gno hg⟩ ?_
      refine JL.no ⟨_, rfl, gno hg⟩ ?_
      refine JL.go trivial (RX.pick_f rfl hg) ?_
      refine JL.nil ?_
      refine J.cond_f rfl rfl ?_
      refine J.skip ?_
      refine J.inBlock ?_
      refine J.region ?_
      refine JL.go trivial (RX.movev (v := Value.int _ _) rfl) ?_
      refine JL.go trivial (RX.add rfl rfl (w_i64 (r := ((m + 1 : Nat) : Int)) (by omega) (by omega) (by omega))) ?_
      refine JL.go trivial (RX.assignv (v := Value.int _ _) rfl) ?_
      refine JL.nil ?_
      exact IH (m + 1, q, xs) _ _ (by simp only; omega) ⟨rfl, rfl, rfl, trivial⟩ ⟨rfl, rfl, trivial⟩ ⟨by simp only; omega, by simp only; omega, hq2, h4, fun i hi1 hi2 => h5 i hi1 (by simp only at hi2; omega), H⟩
  · skip
    have hm : m = 17 + fst := by omega
    refine J.exit rfl ?_
    refine J.seq ?_
    refine J.seq ?_
    refine J.region ?_
    refine JL.go trivial (RX.movev (v := Value.int _ _) rfl) ?_
    refine JL.go trivial (RX.eq rfl rfl) ?_
    refine JL.nil ?_
    refine J.cond_d rfl (fun hz => ?_) (fun hz => ?_)
    · skip
      refine J.region ?_
      refine JL.go trivial (RX.indexArr rfl rfl ar109 (by omega) (by omega) (o' := 0) (by omega)) ?_
      refine JL.does trivial (EX.store (v := Value.float _ _) H rfl rfl (i := 0) rfl rfl (by rw [List.length_map, h4]; omega) sz71 rfl rfl) ?_
      rintro _ w H
      refine JL.nil ?_
      have hz' : fst = 0 := by omega
      subst hz'
      have hall : ∀ j, j < 9 → ∃ x, (xs.set 0 one64)[j]? = some x ∧ cn x = coef 0 j := by
        intro j hj
        rw [set_get (by omega)]
        by_cases hj0 : 0 = j
        · subst hj0
          rw [if_pos rfl]
          exact ⟨_, rfl, by rw [coef_zero]; exact cn_one⟩
        · rw [if_neg hj0]
          exact h5 j (by omega) (by omega)
      replace H : Hp w0 w ([(b5, cel ((xs.set 0 one64).map (Value.float .f64)) 109)] :: F) := by
        rw [List.map_set]; exact H
      generalize xs.set 0 one64 = ys at hall H
      refine J.seq ?_
      obtain ⟨x8, hx8, hc8⟩ := hall 8 (by decide)
      refine J.region ?_
      refine JL.go trivial (RX.indexArr rfl rfl ar109 (by omega) (by omega) (o' := 8) (by omega)) ?_
      refine JL.go trivial (RX.load H rfl (i := 0) (v := .float .f64 x8) rfl (fl_get hx8) one71) ?_
      refine JL.go trivial (RX.assignv (v := Value.float _ _) rfl) ?_
      refine JL.nil ?_
      refine J.seq ?_
      refine J.seq ?_
      refine J.region ?_
      refine JL.go trivial (RX.assign) ?_
      refine JL.nil ?_
      refine J.block ?_
      refine J.loop (ι := Nat × Nat) (S := fun z => [(9, .int .i64 (7 - (z.1 : Nat))), (8, .float .f64 z.2)]) (Φ := fun z w => z.1 ≤ 8 ∧ cn z.2 = hornN y 0 z.1 ∧ Hp w0 w ([(b5, cel ((ys).map (Value.float .f64)) 109)] :: F)) (μ := fun z => 8 - z.1) (C := [(0, _), (5, _)]) (0, x8) ⟨rfl, rfl, trivial⟩ ⟨rfl, rfl, trivial⟩ ?_ ?_
      · exact ⟨by simp, hc8, H⟩
      clear H
      rintro ⟨i, p⟩ ρ w ⟨hi, hp, H⟩ IH
      simp only at hi hp H
      dsimp only
      refine J.seq ?_
      refine J.seq ?_
      refine J.region ?_
      refine JL.go trivial (RX.movev (v := Value.int _ _) rfl) ?_
      refine JL.go trivial (RX.ge rfl rfl) ?_
      refine JL.nil ?_
      refine J.cond_d rfl (fun hk => ?_) (fun hk => ?_)
      · skip
        obtain ⟨xk, hxk, hck⟩ := hall (7 - i) (by omega)
        refine J.skip ?_
        refine J.seq ?_
        refine J.block ?_
        refine J.region ?_
        refine JL.go trivial (RX.movev (v := Value.int _ _) rfl) ?_
        refine JL.go trivial (RX.indexArr rfl rfl ar109 (by omega) (by omega) (o' := 7 - i) (by omega)) ?_
        refine JL.go trivial (RX.load H rfl (i := 0) (v := .float .f64 xk) rfl (fl_get hxk) one71) ?_
        refine JL.go trivial (RX.movev (v := Value.float _ _) rfl) ?_
        refine JL.go trivial (RX.movev (v := Value.float _ _) rfl) ?_
        refine JL.does trivial (EX.farith (.inr (.inr (.inl rfl))) H rfl rfl) ?_
        rintro _ w ⟨a, rfl, ha, H⟩
        refine JL.does trivial (EX.farith (.inr (.inl rfl)) H rfl rfl) ?_
        rintro _ w ⟨b, rfl, hb, H⟩
        refine JL.go trivial (RX.assignv (v := Value.float _ _) rfl) ?_
        refine JL.nil ?_
        refine J.inBlock ?_
        refine J.region ?_
        refine JL.go trivial (RX.movev (v := Value.int _ _) rfl) ?_
        refine JL.go trivial (RX.sub rfl rfl (w_i64 (r := 7 - ((i + 1 : Nat) : Int)) (by omega) (by omega) (by omega))) ?_
        refine JL.go trivial (RX.assignv (v := Value.int _ _) rfl) ?_
        refine JL.nil ?_
        refine IH (i + 1, b) _ _ (by simp only; omega) ⟨rfl, rfl, trivial⟩ ⟨rfl, rfl, trivial⟩ ⟨by simp only; omega, ?_, H⟩
        simp only
        rw [hb, hornN]
        exact fo_al .sub (by rw [hck, coef_cn]) (by rw [ha, fo_cn]; exact fo_al .mul rfl (by rw [hp, hornN_cn]))
      · skip
        have hi8 : i = 8 := by omega
        subst hi8
        refine J.exit rfl ?_
        refine J.seq ?_
        refine J.region ?_
        refine JL.go trivial (RX.movev (v := Value.float _ _) rfl) ?_
        refine JL.go trivial (RX.assignv (v := Value.float _ _) rfl) ?_
        refine JL.nil ?_
        refine J.ret1 (v := Value.float _ _) Tryd.func60 rfl rfl ?_
        exact ⟨_, rfl, _, rfl, hp, H.drop⟩
    · skip
      have hz' : fst = 1 := by omega
      subst hz'
      have hall : ∀ j, j < 9 → ∃ x, xs[j]? = some x ∧ cn x = coef 1 j := fun j hj => h5 j (by omega) (by omega)
      generalize xs = ys at hall H
      refine J.skip ?_
      refine J.seq ?_
      obtain ⟨x8, hx8, hc8⟩ := hall 8 (by decide)
      refine J.region ?_
      refine JL.go trivial (RX.indexArr rfl rfl ar109 (by omega) (by omega) (o' := 8) (by omega)) ?_
      refine JL.go trivial (RX.load H rfl (i := 0) (v := .float .f64 x8) rfl (fl_get hx8) one71) ?_
      refine JL.go trivial (RX.assignv (v := Value.float _ _) rfl) ?_
      refine JL.nil ?_
      refine J.seq ?_
      refine J.seq ?_
      refine J.region ?_
      refine JL.go trivial (RX.assign) ?_
      refine JL.nil ?_
      refine J.block ?_
      refine J.loop (ι := Nat × Nat) (S := fun z => [(9, .int .i64 (7 - (z.1 : Nat))), (8, .float .f64 z.2)]) (Φ := fun z w => z.1 ≤ 8 ∧ cn z.2 = hornN y 1 z.1 ∧ Hp w0 w ([(b5, cel ((ys).map (Value.float .f64)) 109)] :: F)) (μ := fun z => 8 - z.1) (C := [(0, _), (5, _)]) (0, x8) ⟨rfl, rfl, trivial⟩ ⟨rfl, rfl, trivial⟩ ?_ ?_
      · exact ⟨by simp, hc8, H⟩
      clear H
      rintro ⟨i, p⟩ ρ w ⟨hi, hp, H⟩ IH
      simp only at hi hp H
      dsimp only
      refine J.seq ?_
      refine J.seq ?_
      refine J.region ?_
      refine JL.go trivial (RX.movev (v := Value.int _ _) rfl) ?_
      refine JL.go trivial (RX.ge rfl rfl) ?_
      refine JL.nil ?_
      refine J.cond_d rfl (fun hk => ?_) (fun hk => ?_)
      · skip
        obtain ⟨xk, hxk, hck⟩ := hall (7 - i) (by omega)
        refine J.skip ?_
        refine J.seq ?_
        refine J.block ?_
        refine J.region ?_
        refine JL.go trivial (RX.movev (v := Value.int _ _) rfl) ?_
        refine JL.go trivial (RX.indexArr rfl rfl ar109 (by omega) (by omega) (o' := 7 - i) (by omega)) ?_
        refine JL.go trivial (RX.load H rfl (i := 0) (v := .float .f64 xk) rfl (fl_get hxk) one71) ?_
        refine JL.go trivial (RX.movev (v := Value.float _ _) rfl) ?_
        refine JL.go trivial (RX.movev (v := Value.float _ _) rfl) ?_
        refine JL.does trivial (EX.farith (.inr (.inr (.inl rfl))) H rfl rfl) ?_
        rintro _ w ⟨a, rfl, ha, H⟩
        refine JL.does trivial (EX.farith (.inr (.inl rfl)) H rfl rfl) ?_
        rintro _ w ⟨b, rfl, hb, H⟩
        refine JL.go trivial (RX.assignv (v := Value.float _ _) rfl) ?_
        refine JL.nil ?_
        refine J.inBlock ?_
        refine J.region ?_
        refine JL.go trivial (RX.movev (v := Value.int _ _) rfl) ?_
        refine JL.go trivial (RX.sub rfl rfl (w_i64 (r := 7 - ((i + 1 : Nat) : Int)) (by omega) (by omega) (by omega))) ?_
        refine JL.go trivial (RX.assignv (v := Value.int _ _) rfl) ?_
        refine JL.nil ?_
        refine IH (i + 1, b) _ _ (by simp only; omega) ⟨rfl, rfl, trivial⟩ ⟨rfl, rfl, trivial⟩ ⟨by simp only; omega, ?_, H⟩
        simp only
        rw [hb, hornN]
        exact fo_al .sub (by rw [hck, coef_cn]) (by rw [ha, fo_cn]; exact fo_al .mul rfl (by rw [hp, hornN_cn]))
      · skip
        have hi8 : i = 8 := by omega
        subst hi8
        refine J.exit rfl ?_
        refine J.seq ?_
        refine J.region ?_
        refine JL.go trivial (RX.movev (v := Value.float _ _) rfl) ?_
        refine JL.go trivial (RX.assignv (v := Value.float _ _) rfl) ?_
        refine JL.nil ?_
        refine J.ret1 (v := Value.float _ _) Tryd.func60 rfl rfl ?_
        exact ⟨_, rfl, _, rfl, hp, H.drop⟩

def CnP (p : Nat × Nat) : Prop := cn p.1 = p.1 ∧ cn p.2 = p.2
theorem halfN_cn (n k4 : Int) : CnP (halfN n k4) := by
  unfold halfN
  split
  · exact eighthN_cn _ _
  · exact ⟨(eighthN_cn _ _).2, (eighthN_cn _ _).1⟩
theorem rotN_cn {p : Nat × Nat} (h : CnP p) : ∀ q, CnP (rotN q p)
  | 0 => h
  | q + 1 => ⟨cn_cn _, (rotN_cn h q).1⟩
theorem rootN_cn (n k : Int) : CnP (rootN n k) := ⟨plusN_cn _, plusN_cn _⟩
/-- A row of roots of n, the first m of them. -/
def RowUp (n : Int) (m : Nat) (xs : List Value) : Prop := ∀ k, k < m → ∃ a b, xs[k]? = some (.complex .f64 a b) ∧ cn a = (rootN n k).1 ∧ cn b = (rootN n k).2
def RowOf (n : Int) (xs : List Value) : Prop := xs.length = n.toNat ∧ RowUp n n.toNat xs
theorem RowUp.step {n : Int} {m : Nat} {xs : List Value} {a b : Nat} (h : RowUp n m xs) (hm : m < xs.length) (ha : cn a = (rootN n m).1) (hb : cn b = (rootN n m).2) : RowUp n (m + 1) (xs.set m (.complex .f64 a b)) := by
  intro k hk
  rw [List.getElem?_set]
  by_cases e : m = k
  · subst e
    rw [if_pos rfl, if_pos hm]
    exact ⟨a, b, rfl, ha, hb⟩
  · rw [if_neg e]
    exact h k (by omega)

theorem eighth_b {w0 w : World} {F : List Seg} (H : Hp w0 w F) {r n : Int} (hr : 0 ≤ r) (hr2 : r ≤ 33554432) (hn : 0 < n) (hn2 : n ≤ 33554432) : Ret Tryd.prog 41 [.int .i64 r, .int .i64 n] w fun v w' => ∃ a b, v = .tuple #[.float .f64 a, .float .f64 b] ∧ cn a = (eighthN r n).1 ∧ cn b = (eighthN r n).2 ∧ Hp w0 w' F := by
  refine Calls.of_J (n := 36) Tryd.func41 rfl rfl rfl ?_
  refine J.seq ?_
  refine J.region ?_
  refine JL.go trivial (RX.assign) ?_
  refine JL.go trivial (RX.assign) ?_
  refine JL.nil ?_
  refine J.seq ?_
  refine J.block ?_
  refine J.seq ?_
  refine J.region ?_
  refine JL.go trivial (RX.movev (v := Value.int _ _) rfl) ?_
  refine JL.go trivial (RX.eq rfl rfl) ?_
  refine JL.go trivial (RX.assignv (v := Value.bool _) rfl) ?_
  refine JL.nil ?_
  refine J.cond_d rfl (fun h0 => ?_) (fun h0 => ?_)
  · skip
    refine J.seq ?_
    refine J.region ?_
    refine JL.go trivial (RX.assign) ?_
    refine JL.go trivial (RX.assign) ?_
    refine JL.nil ?_
    refine J.ret2 (v := Value.float _ _) (x := Value.float _ _) Tryd.func41 rfl rfl rfl ?_
    exact ⟨_, rfl, _, _, rfl, by rw [eighthN, if_pos h0]; decide, by rw [eighthN, if_pos h0]; decide, H⟩
  · skip
    refine J.seq ?_
    refine J.region ?_
    refine JL.go trivial (RX.movev (v := Value.int _ _) rfl) ?_
    refine JL.go trivial (RX.mul rfl rfl (w_i64 (r := 8 * r) (by omega) (by omega) (by omega))) ?_
    refine JL.go trivial (RX.movev (v := Value.int _ _) rfl) ?_
    refine JL.go trivial (RX.eq rfl rfl) ?_
    refine JL.go trivial (RX.assignv (v := Value.bool _) rfl) ?_
    refine JL.nil ?_
    refine J.cond_d rfl (fun h8 => ?_) (fun h8 => ?_)
    · skip
      refine J.seq ?_
      refine J.region ?_
      refine JL.go trivial (RX.ext ext59 rfl rfl (v := Value.float _ _) rfl) ?_
      refine JL.go trivial (RX.assignv (v := Value.float _ _) rfl) ?_
      refine JL.nil ?_
      refine J.seq ?_
      refine J.region ?_
      refine JL.go trivial (RX.movev (v := Value.float _ _) rfl) ?_
      refine JL.go trivial (RX.movev (v := Value.float _ _) rfl) ?_
      refine JL.go trivial (RX.assignv (v := Value.float _ _) rfl) ?_
      refine JL.go trivial (RX.assignv (v := Value.float _ _) rfl) ?_
      refine JL.nil ?_
      refine J.ret2 (v := Value.float _ _) (x := Value.float _ _) Tryd.func41 rfl rfl rfl ?_
      exact ⟨_, rfl, _, _, rfl, by rw [eighthN, if_neg h0, if_pos h8]; decide, by rw [eighthN, if_neg h0, if_pos h8]; decide, H⟩
    · skip
      refine J.skip ?_
      refine J.inBlock ?_
      refine J.seq ?_
      refine J.region ?_
      refine JL.go trivial (RX.ext ext59 rfl rfl (v := Value.float _ _) rfl) ?_
      refine JL.go trivial (RX.movev (v := Value.int _ _) rfl) ?_
      refine JL.go trivial (RX.i2f rfl ud3 ud71) ?_
      refine JL.does trivial (EX.farith (.inr (.inr (.inl rfl))) H rfl rfl) ?_
      rintro _ w ⟨u, rfl, hu, H⟩
      refine JL.go trivial (RX.movev (v := Value.int _ _) rfl) ?_
      refine JL.go trivial (RX.i2f rfl ud3 ud71) ?_
      refine JL.does trivial (EX.farith (.inr (.inr (.inr rfl))) H rfl rfl) ?_
      rintro _ w ⟨t, rfl, ht, H⟩
      refine JL.go trivial (RX.assignv (v := Value.float _ _) rfl) ?_
      refine JL.nil ?_
      refine J.seq ?_
      refine J.region ?_
      refine JL.go trivial (RX.movev (v := Value.float _ _) rfl) ?_
      refine JL.go trivial (RX.movev (v := Value.float _ _) rfl) ?_
      refine JL.does trivial (EX.farith (.inr (.inr (.inl rfl))) H rfl rfl) ?_
      rintro _ w ⟨y, rfl, hy, H⟩
      refine JL.go trivial (RX.assignv (v := Value.float _ _) rfl) ?_
      refine JL.nil ?_
      refine J.seq ?_
      refine J.region ?_
      refine JL.go trivial (RX.movev (v := Value.float _ _) rfl) ?_
      refine JL.does trivial (EX.call rfl cl60 rfl ((horner_b H (fst := 0) (by decide)))) ?_
      rintro _ w ⟨p, rfl, hp, H⟩
      refine JL.go trivial (RX.movev (v := Value.float _ _) rfl) ?_
      refine JL.go trivial (RX.movev (v := Value.float _ _) rfl) ?_
      refine JL.does trivial (EX.call rfl cl60 rfl ((horner_b H (fst := 1) (by decide)))) ?_
      rintro _ w ⟨q, rfl, hq, H⟩
      refine JL.does trivial (EX.farith (.inr (.inr (.inl rfl))) H rfl rfl) ?_
      rintro _ w ⟨z, rfl, hz, H⟩
      refine JL.go trivial (RX.assignv (v := Value.float _ _) rfl) ?_
      refine JL.go trivial (RX.assignv (v := Value.float _ _) rfl) ?_
      refine JL.nil ?_
      refine J.ret2 (v := Value.float _ _) (x := Value.float _ _) Tryd.func41 rfl rfl rfl ?_
      have et : cn t = cn (fo .quo (fo .mul twoPi64 (fint r)) (fint n)) := by rw [ht, fo_cn]; exact fo_al .quo (by rw [hu, fo_cn]; rfl) rfl
      have ey : cn y = cn (fo .mul (fo .quo (fo .mul twoPi64 (fint r)) (fint n)) (fo .quo (fo .mul twoPi64 (fint r)) (fint n))) := by rw [hy, fo_cn]; exact fo_al .mul et et
      refine ⟨_, rfl, _, _, rfl, ?_, ?_, H⟩
      · rw [eighthN, if_neg h0, if_neg h8, hp]; exact hornN_al ey 0 8
      · rw [eighthN, if_neg h0, if_neg h8, hz]; exact fo_al .mul et (by rw [hq, hornN_cn]; exact hornN_al ey 1 8)
theorem mod_b {w0 w : World} {F : List Seg} (H : Hp w0 w F) {k n : Int} (hk : i64ok k) (hn : 0 < n) (hn2 : n ≤ 33554432) : Ret Tryd.prog 40 [.int .i64 k, .int .i64 n] w fun v w' => v = .int .i64 (k % n) ∧ Hp w0 w' F := by
  refine Calls.of_J (n := 12) Tryd.func40 rfl rfl rfl ?_
  refine J.seq ?_
  refine J.region ?_
  refine JL.go trivial (RX.assign) ?_
  refine JL.nil ?_
  refine J.seq ?_
  have e1 := Int.tmod_lt_of_pos k hn
  have e2 := Int.lt_tmod_of_pos k hn
  refine J.region ?_
  refine JL.go trivial (RX.movev (v := Value.int _ _) rfl) ?_
  refine JL.go trivial (RX.movev (v := Value.int _ _) rfl) ?_
  refine JL.go trivial (RX.rem rfl rfl (by omega) rfl) ?_
  refine JL.go trivial (RX.movev (v := Value.int _ _) rfl) ?_
  refine JL.go trivial (RX.add rfl rfl (w_i64 (r := k.tmod n + n) (by omega) (by omega) (by omega))) ?_
  refine JL.go trivial (RX.movev (v := Value.int _ _) rfl) ?_
  refine JL.go trivial (RX.rem rfl rfl (by omega) (tmod_up hn)) ?_
  refine JL.go trivial (RX.assignv (v := Value.int _ _) rfl) ?_
  refine JL.nil ?_
  refine J.ret1 (v := Value.int _ _) Tryd.func40 rfl rfl ?_
  exact ⟨_, rfl, rfl, H⟩
theorem plus_b {w0 w : World} {F : List Seg} (H : Hp w0 w F) {x : Nat} : Ret Tryd.prog 29 [.float .f64 x] w fun v w' => ∃ r, v = .float .f64 r ∧ cn r = plusN x ∧ Hp w0 w' F := by
  refine Calls.of_J (n := 6) Tryd.func29 rfl rfl rfl ?_
  refine J.seq ?_
  refine J.region ?_
  refine JL.go trivial (RX.assign) ?_
  refine JL.nil ?_
  refine J.seq ?_
  refine J.seq ?_
  refine J.region ?_
  refine JL.go trivial (RX.movev (v := Value.float _ _) rfl) ?_
  refine JL.go trivial (RX.feq rfl rfl) ?_
  refine JL.nil ?_
  refine J.cond rfl (fun h0 => ?_) (fun h0 => ?_)
  · skip
    refine J.seq ?_
    refine J.region ?_
    refine JL.go trivial (RX.assign) ?_
    refine JL.nil ?_
    refine J.ret1 (v := Value.float _ _) Tryd.func29 rfl rfl ?_
    replace h0 : (ford x 0 == some .eq) = true := h0
    exact ⟨_, rfl, _, rfl, by rw [plusN, if_pos h0]; decide, H⟩
  · skip
    refine J.skip ?_
    refine J.seq ?_
    refine J.region ?_
    refine JL.go trivial (RX.movev (v := Value.float _ _) rfl) ?_
    refine JL.go trivial (RX.assignv (v := Value.float _ _) rfl) ?_
    refine JL.nil ?_
    refine J.ret1 (v := Value.float _ _) Tryd.func29 rfl rfl ?_
    exact ⟨_, rfl, _, rfl, by rw [plusN, if_neg (by rw [show (ford x 0 == some .eq) = false from h0]; decide)], H⟩
theorem pair_b {w0 w : World} {F : List Seg} (H : Hp w0 w F) {n k : Int} (hn : 1 ≤ n) (hn2 : n ≤ 4194304) (hk : i64ok k) : Ret Tryd.prog 28 [.int .i64 n, .int .i64 k] w fun v w' => ∃ a b, v = .tuple #[.float .f64 a, .float .f64 b, .nilIface] ∧ cn a = (pairN n k).1 ∧ cn b = (pairN n k).2 ∧ Hp w0 w' F := by
  refine Calls.of_J (n := 58) Tryd.func28 rfl rfl rfl ?_
  refine J.seq ?_
  refine J.region ?_
  refine JL.go trivial (RX.assign) ?_
  refine JL.go trivial (RX.assign) ?_
  refine JL.go trivial (RX.assign) ?_
  refine JL.nil ?_
  refine J.seq ?_
  refine J.seq ?_
  refine J.region ?_
  refine JL.go trivial (RX.movev (v := Value.int _ _) rfl) ?_
  refine JL.go trivial (RX.lt rfl rfl) ?_
  refine JL.go trivial (RX.movev (v := Value.bool _) rfl) ?_
  refine JL.go ⟨_, rfl, (decide_eq_false (by omega))⟩ (RX.movev (v := Value.int _ _) rfl) ?_
  refine JL.go ⟨_, rfl, (decide_eq_false (by omega))⟩ (RX.gt rfl rfl) ?_
  refine JL.go trivial (RX.pick_f rfl (decide_eq_false (by omega))) ?_
  refine JL.nil ?_
  refine J.cond_f rfl (decide_eq_false (by omega)) ?_
  refine J.skip ?_
  refine J.seq ?_
  have m0 := Int.emod_nonneg k (show n ≠ 0 by omega)
  have m1 := Int.emod_lt_of_pos k (show 0 < n by omega)
  have r0 := Int.emod_nonneg (4 * (k % n)) (show n ≠ 0 by omega)
  have r1 := Int.emod_lt_of_pos (4 * (k % n)) (show 0 < n by omega)
  have q0 := Int.ediv_nonneg (show 0 ≤ 4 * (k % n) by omega) (show 0 ≤ n by omega)
  have q1 : 4 * (k % n) / n < 4 := Int.ediv_lt_of_lt_mul (by omega) (by omega)
  refine J.region ?_
  refine JL.go trivial (RX.movev (v := Value.int _ _) rfl) ?_
  refine JL.go trivial (RX.movev (v := Value.int _ _) rfl) ?_
  refine JL.does trivial (EX.call rfl cl40 rfl ((mod_b H hk (by omega) (by omega)))) ?_
  rintro _ w ⟨rfl, H⟩
  refine JL.go trivial (RX.mul rfl rfl (w_i64 (r := 4 * (k % n)) (by omega) (by omega) (by omega))) ?_
  refine JL.go trivial (RX.assignv (v := Value.int _ _) rfl) ?_
  refine JL.nil ?_
  refine J.seq ?_
  refine J.region ?_
  refine JL.go trivial (RX.movev (v := Value.int _ _) rfl) ?_
  refine JL.go trivial (RX.movev (v := Value.int _ _) rfl) ?_
  refine JL.go trivial (RX.rem rfl rfl (by omega) (r := 4 * (k % n) % n) (Int.tmod_eq_emod_of_nonneg (by omega))) ?_
  refine JL.go trivial (RX.assignv (v := Value.int _ _) rfl) ?_
  refine JL.nil ?_
  refine J.seq ?_
  refine J.region ?_
  refine JL.go trivial (RX.assign) ?_
  refine JL.go trivial (RX.assign) ?_
  refine JL.nil ?_
  refine J.seq ?_
  refine J.seq ?_
  refine J.region ?_
  refine JL.go trivial (RX.movev (v := Value.int _ _) rfl) ?_
  refine JL.go trivial (RX.mul rfl rfl (w_i64 (r := 2 * (4 * (k % n) % n)) (by omega) (by omega) (by omega))) ?_
  refine JL.go trivial (RX.movev (v := Value.int _ _) rfl) ?_
  refine JL.go trivial (RX.le rfl rfl) ?_
  refine JL.nil ?_
  refine J.cond_d rfl (fun hh => ?_) (fun hh => ?_)
  · skip
    refine J.region ?_
    refine JL.go trivial (RX.movev (v := Value.int _ _) rfl) ?_
    refine JL.go trivial (RX.movev (v := Value.int _ _) rfl) ?_
    refine JL.go trivial (RX.mul rfl rfl (w_i64 (r := 4 * n) (by omega) (by omega) (by omega))) ?_
    refine JL.does trivial (EX.call rfl cl41 rfl ((eighth_b H (by omega) (by omega) (by omega) (by omega)))) ?_
    rintro _ w ⟨c, s, rfl, hc, hs, H⟩
    replace hc : cn c = (halfN n (4 * (k % n))).1 := by rw [halfN, if_pos hh]; exact hc
    replace hs : cn s = (halfN n (4 * (k % n))).2 := by rw [halfN, if_pos hh]; exact hs
    refine JL.go trivial (RX.movev (v := Value.tuple _) rfl) ?_
    refine JL.go trivial (RX.extract rfl rfl) ?_
    refine JL.go trivial (RX.extract rfl rfl) ?_
    refine JL.go trivial (RX.assignv (v := Value.float _ _) rfl) ?_
    refine JL.go trivial (RX.assignv (v := Value.float _ _) rfl) ?_
    refine JL.nil ?_
    refine J.seq ?_
    refine J.seq ?_
    refine J.region ?_
    refine JL.go trivial (RX.movev (v := Value.int _ _) rfl) ?_
    refine JL.go trivial (RX.movev (v := Value.int _ _) rfl) ?_
    refine JL.go trivial (RX.quo rfl rfl (by omega) (w_i64 (r := (((4 * (k % n) / n).toNat : Nat) : Int)) (by rw [Int.tdiv_eq_ediv_of_nonneg (by omega)]; omega) (by omega) (by omega))) ?_
    refine JL.go trivial (RX.move) ?_
    refine JL.nil ?_
    refine J.block ?_
    refine J.loop (ι := Nat × Nat × Nat) (S := fun z => [(48, .int .i64 (z.1 : Nat)), (9, .float .f64 z.2.1), (10, .float .f64 z.2.2)]) (Φ := fun z w => z.1 ≤ (4 * (k % n) / n).toNat ∧ cn z.2.1 = (rotN z.1 (halfN n (4 * (k % n)))).1 ∧ cn z.2.2 = (rotN z.1 (halfN n (4 * (k % n)))).2 ∧ Hp w0 w F) (μ := fun z => (4 * (k % n) / n).toNat - z.1) (C := [(47, _)]) (0, c, s) ⟨rfl, trivial⟩ ⟨rfl, rfl, rfl, trivial⟩ ?_ ?_
    · exact ⟨by simp, hc, hs, H⟩
    clear H hc hs c s
    rintro ⟨q, c, s⟩ ρ w ⟨hq, hc, hs, H⟩ IH
    simp only at hq hc hs H
    have hcn := rotN_cn (halfN_cn n (4 * (k % n))) q
    dsimp only
    refine J.seq ?_
    refine J.region ?_
    refine JL.go trivial (RX.lt rfl rfl) ?_
    refine JL.nil ?_
    refine J.seq ?_
    refine J.cond_d rfl (fun hlt => ?_) (fun hlt => ?_)
    · skip
      refine J.skip ?_
      refine J.seq ?_
      refine J.block ?_
      refine J.region ?_
      refine JL.go trivial (RX.movev (v := Value.float _ _) rfl) ?_
      refine JL.go trivial (RX.fneg rfl) ?_
      refine JL.go trivial (RX.movev (v := Value.float _ _) rfl) ?_
      refine JL.go trivial (RX.assignv (v := Value.float _ _) rfl) ?_
      refine JL.go trivial (RX.assignv (v := Value.float _ _) rfl) ?_
      refine JL.nil ?_
      refine J.inBlock ?_
      refine J.region ?_
      refine JL.go trivial (RX.add rfl rfl (w_i64 (r := ((q + 1 : Nat) : Int)) (by omega) (by omega) (by omega))) ?_
      refine JL.go trivial (RX.movev (v := Value.int _ _) rfl) ?_
      refine JL.nil ?_
      exact IH (q + 1, fneg s, c) _ _ (by simp only; omega) ⟨rfl, trivial⟩ ⟨rfl, rfl, rfl, trivial⟩ ⟨by simp only; omega, fneg_al (by rw [hs, hcn.2]), hc, H⟩
    · skip
      have hqq : q = (4 * (k % n) / n).toNat := by omega
      subst hqq
      refine J.exit rfl ?_
      refine J.seq ?_
      refine J.region ?_
      refine JL.go trivial (RX.movev (v := Value.float _ _) rfl) ?_
      refine JL.does trivial (EX.call rfl cl29 rfl ((plus_b H))) ?_
      rintro _ w ⟨a, rfl, ha, H⟩
      refine JL.go trivial (RX.movev (v := Value.float _ _) rfl) ?_
      refine JL.does trivial (EX.call rfl cl29 rfl ((plus_b H))) ?_
      rintro _ w ⟨b, rfl, hb, H⟩
      refine JL.go trivial (RX.assignv (v := Value.float _ _) rfl) ?_
      refine JL.go trivial (RX.assignv (v := Value.float _ _) rfl) ?_
      refine JL.go trivial (RX.assign) ?_
      refine JL.nil ?_
      refine J.ret3 (v := Value.float _ _) (x := Value.float _ _) Tryd.func28 rfl rfl rfl rfl ?_
      exact ⟨_, rfl, _, _, rfl, by rw [ha, pairN]; exact plusN_al (by rw [hc, hcn.1]), by rw [hb, pairN]; exact plusN_al (by rw [hs, hcn.2]), H⟩
  · skip
    refine J.region ?_
    refine JL.go trivial (RX.movev (v := Value.int _ _) rfl) ?_
    refine JL.go trivial (RX.movev (v := Value.int _ _) rfl) ?_
    refine JL.go trivial (RX.sub rfl rfl (w_i64 (r := n - 4 * (k % n) % n) (by omega) (by omega) (by omega))) ?_
    refine JL.go trivial (RX.movev (v := Value.int _ _) rfl) ?_
    refine JL.go trivial (RX.mul rfl rfl (w_i64 (r := 4 * n) (by omega) (by omega) (by omega))) ?_
    refine JL.does trivial (EX.call rfl cl41 rfl ((eighth_b H (by omega) (by omega) (by omega) (by omega)))) ?_
    rintro _ w ⟨s, c, rfl, hs, hc, H⟩
    replace hc : cn c = (halfN n (4 * (k % n))).1 := by rw [halfN, if_neg hh]; exact hc
    replace hs : cn s = (halfN n (4 * (k % n))).2 := by rw [halfN, if_neg hh]; exact hs
    refine JL.go trivial (RX.movev (v := Value.tuple _) rfl) ?_
    refine JL.go trivial (RX.extract rfl rfl) ?_
    refine JL.go trivial (RX.extract rfl rfl) ?_
    refine JL.go trivial (RX.assignv (v := Value.float _ _) rfl) ?_
    refine JL.go trivial (RX.assignv (v := Value.float _ _) rfl) ?_
    refine JL.nil ?_
    refine J.seq ?_
    refine J.seq ?_
    refine J.region ?_
    refine JL.go trivial (RX.movev (v := Value.int _ _) rfl) ?_
    refine JL.go trivial (RX.movev (v := Value.int _ _) rfl) ?_
    refine JL.go trivial (RX.quo rfl rfl (by omega) (w_i64 (r := (((4 * (k % n) / n).toNat : Nat) : Int)) (by rw [Int.tdiv_eq_ediv_of_nonneg (by omega)]; omega) (by omega) (by omega))) ?_
    refine JL.go trivial (RX.move) ?_
    refine JL.nil ?_
    refine J.block ?_
    refine J.loop (ι := Nat × Nat × Nat) (S := fun z => [(48, .int .i64 (z.1 : Nat)), (9, .float .f64 z.2.1), (10, .float .f64 z.2.2)]) (Φ := fun z w => z.1 ≤ (4 * (k % n) / n).toNat ∧ cn z.2.1 = (rotN z.1 (halfN n (4 * (k % n)))).1 ∧ cn z.2.2 = (rotN z.1 (halfN n (4 * (k % n)))).2 ∧ Hp w0 w F) (μ := fun z => (4 * (k % n) / n).toNat - z.1) (C := [(47, _)]) (0, c, s) ⟨rfl, trivial⟩ ⟨rfl, rfl, rfl, trivial⟩ ?_ ?_
    · exact ⟨by simp, hc, hs, H⟩
    clear H hc hs c s
    rintro ⟨q, c, s⟩ ρ w ⟨hq, hc, hs, H⟩ IH
    simp only at hq hc hs H
    have hcn := rotN_cn (halfN_cn n (4 * (k % n))) q
    dsimp only
    refine J.seq ?_
    refine J.region ?_
    refine JL.go trivial (RX.lt rfl rfl) ?_
    refine JL.nil ?_
    refine J.seq ?_
    refine J.cond_d rfl (fun hlt => ?_) (fun hlt => ?_)
    · skip
      refine J.skip ?_
      refine J.seq ?_
      refine J.block ?_
      refine J.region ?_
      refine JL.go trivial (RX.movev (v := Value.float _ _) rfl) ?_
      refine JL.go trivial (RX.fneg rfl) ?_
      refine JL.go trivial (RX.movev (v := Value.float _ _) rfl) ?_
      refine JL.go trivial (RX.assignv (v := Value.float _ _) rfl) ?_
      refine JL.go trivial (RX.assignv (v := Value.float _ _) rfl) ?_
      refine JL.nil ?_
      refine J.inBlock ?_
      refine J.region ?_
      refine JL.go trivial (RX.add rfl rfl (w_i64 (r := ((q + 1 : Nat) : Int)) (by omega) (by omega) (by omega))) ?_
      refine JL.go trivial (RX.movev (v := Value.int _ _) rfl) ?_
      refine JL.nil ?_
      exact IH (q + 1, fneg s, c) _ _ (by simp only; omega) ⟨rfl, trivial⟩ ⟨rfl, rfl, rfl, trivial⟩ ⟨by simp only; omega, fneg_al (by rw [hs, hcn.2]), hc, H⟩
    · skip
      have hqq : q = (4 * (k % n) / n).toNat := by omega
      subst hqq
      refine J.exit rfl ?_
      refine J.seq ?_
      refine J.region ?_
      refine JL.go trivial (RX.movev (v := Value.float _ _) rfl) ?_
      refine JL.does trivial (EX.call rfl cl29 rfl ((plus_b H))) ?_
      rintro _ w ⟨a, rfl, ha, H⟩
      refine JL.go trivial (RX.movev (v := Value.float _ _) rfl) ?_
      refine JL.does trivial (EX.call rfl cl29 rfl ((plus_b H))) ?_
      rintro _ w ⟨b, rfl, hb, H⟩
      refine JL.go trivial (RX.assignv (v := Value.float _ _) rfl) ?_
      refine JL.go trivial (RX.assignv (v := Value.float _ _) rfl) ?_
      refine JL.go trivial (RX.assign) ?_
      refine JL.nil ?_
      refine J.ret3 (v := Value.float _ _) (x := Value.float _ _) Tryd.func28 rfl rfl rfl rfl ?_
      exact ⟨_, rfl, _, _, rfl, by rw [ha, pairN]; exact plusN_al (by rw [hc, hcn.1]), by rw [hb, pairN]; exact plusN_al (by rw [hs, hcn.2]), H⟩
theorem Root_b {w0 w : World} {F : List Seg} (H : Hp w0 w F) {n k : Int} (hn : 1 ≤ n) (hn2 : n ≤ 4194304) (hk : i64ok k) : Ret Tryd.prog 14 [.int .i64 n, .int .i64 k] w fun v w' => ∃ a b, v = .tuple #[.complex .f64 a b, .nilIface] ∧ cn a = (rootN n k).1 ∧ cn b = (rootN n k).2 ∧ Hp w0 w' F := by
  refine Calls.of_J (n := 24) Tryd.func14 rfl rfl rfl ?_
  refine J.seq ?_
  refine J.region ?_
  refine JL.go trivial (RX.assign) ?_
  refine JL.go trivial (RX.assign) ?_
  refine JL.nil ?_
  refine J.seq ?_
  refine J.region ?_
  refine JL.go trivial (RX.movev (v := Value.int _ _) rfl) ?_
  refine JL.go trivial (RX.movev (v := Value.int _ _) rfl) ?_
  refine JL.does trivial (EX.call rfl cl28 rfl ((pair_b H hn hn2 hk))) ?_
  rintro _ w ⟨c, s, rfl, hc, hs, H⟩
  refine JL.go trivial (RX.movev (v := Value.tuple _) rfl) ?_
  refine JL.go trivial (RX.extract rfl rfl) ?_
  refine JL.go trivial (RX.extract rfl rfl) ?_
  refine JL.go trivial (RX.extract rfl rfl) ?_
  refine JL.go trivial (RX.assignv (v := Value.float _ _) rfl) ?_
  refine JL.go trivial (RX.assignv (v := Value.float _ _) rfl) ?_
  refine JL.go trivial (RX.assign) ?_
  refine JL.nil ?_
  refine J.seq ?_
  refine J.seq ?_
  refine J.region ?_
  refine JL.go trivial (RX.move) ?_
  refine JL.go trivial (RX.ifnil_neq rfl rfl rfl if28) ?_
  refine JL.nil ?_
  refine J.cond_f rfl rfl ?_
  refine J.skip ?_
  refine J.seq ?_
  refine J.region ?_
  refine JL.go trivial (RX.movev (v := Value.float _ _) rfl) ?_
  refine JL.go trivial (RX.movev (v := Value.float _ _) rfl) ?_
  refine JL.go trivial (RX.fneg rfl) ?_
  refine JL.does trivial (EX.call rfl cl29 rfl ((plus_b H))) ?_
  rintro _ w ⟨t, rfl, ht, H⟩
  refine JL.go trivial (RX.complex rfl rfl) ?_
  refine JL.go trivial (RX.assignv (v := Value.complex _ _ _) rfl) ?_
  refine JL.go trivial (RX.assign) ?_
  refine JL.nil ?_
  refine J.ret2 (v := Value.complex _ _ _) Tryd.func14 rfl rfl rfl ?_
  exact ⟨_, rfl, _, _, rfl, hc, by rw [ht, rootN]; exact plusN_al (fneg_al (by rw [hs]; exact (plusN_cn _).symm)), H⟩
theorem mkC : Tryd.prog.underlying 31 = some (.slice 26) ∧ ∃ i, Tryd.prog.info? 26 = some i ∧ i.zero = some (.complex .f64 0 0) ∧ i.size = 1 ∧ i.bytes = 16 := ⟨by kernel_rfl, info_one (by kernel_rfl) (by kernel_rfl)⟩
theorem All_b {w0 w : World} {F : List Seg} (H : Hp w0 w F) {n : Int} (hn : 1 ≤ n) (hn2 : n ≤ 16384) : Ret Tryd.prog 16 [.int .i64 n] w fun v w' => ∃ b xs, v = .tuple #[.slice (some ⟨b, 0, none⟩) n.toNat n.toNat, .nilIface] ∧ RowOf n xs ∧ Hp w0 w' ([(b, cel xs 26)] :: F) := by
  refine Calls.of_J (n := 31) Tryd.func16 rfl rfl rfl ?_
  refine J.seq ?_
  refine J.region ?_
  refine JL.go trivial (RX.assign) ?_
  refine JL.go trivial (RX.assign) ?_
  refine JL.nil ?_
  refine J.seq ?_
  refine J.seq ?_
  refine J.region ?_
  refine JL.go trivial (RX.movev (v := Value.int _ _) rfl) ?_
  refine JL.go trivial (RX.lt rfl rfl) ?_
  refine JL.go trivial (RX.movev (v := Value.bool _) rfl) ?_
  refine JL.go ⟨_, rfl, (decide_eq_false (by omega))⟩ (RX.movev (v := Value.int _ _) rfl) ?_
  refine JL.go ⟨_, rfl, (decide_eq_false (by omega))⟩ (RX.gt rfl rfl) ?_
  refine JL.go trivial (RX.pick_f rfl (decide_eq_false (by omega))) ?_
  refine JL.nil ?_
  refine J.cond_f rfl (decide_eq_false (by omega)) ?_
  refine J.skip ?_
  refine J.seq ?_
  refine J.region ?_
  refine JL.go trivial (RX.movev (v := Value.int _ _) rfl) ?_
  refine JL.does trivial (EX.makeS (e := 26) (m := n.toNat) H mkC.1 mkC.2 rfl rfl rfl (by omega) (by omega) (by omega)) ?_
  rintro _ w ⟨b1, rfl, H⟩
  refine JL.go trivial (RX.assignv (v := Value.slice _ _ _) rfl) ?_
  refine JL.nil ?_
  refine J.seq ?_
  refine J.seq ?_
  refine J.region ?_
  refine JL.go trivial (RX.movev (v := Value.slice _ _ _) rfl) ?_
  refine JL.go trivial (RX.len_slice rfl (by rw [sl31]; rfl) rfl) ?_
  refine JL.go trivial (RX.move) ?_
  refine JL.nil ?_
  refine J.block ?_
  refine J.loop (ι := Nat × List Value) (S := fun z => [(17, .int .i64 (z.1 : Nat))]) (Φ := fun z w => z.1 ≤ n.toNat ∧ z.2.length = n.toNat ∧ RowUp n z.1 z.2 ∧ Hp w0 w ([(b1, cel (z.2) 26)] :: F)) (μ := fun z => n.toNat - z.1) (C := [(0, _), (4, _), (16, _)]) (0, fnL (fun _ => .complex .f64 0 0) n.toNat) ⟨rfl, rfl, rfl, trivial⟩ ⟨rfl, trivial⟩ ?_ ?_
  · exact ⟨by simp, fnL_len, fun k hk => absurd hk (by simp), H⟩
  clear H
  rintro ⟨k, xs⟩ ρ w ⟨hk, hl, hr, H⟩ IH
  simp only at hk hl hr H
  dsimp only
  refine J.seq ?_
  refine J.region ?_
  refine JL.go trivial (RX.lt rfl rfl) ?_
  refine JL.nil ?_
  refine J.seq ?_
  refine J.cond_d rfl (fun hlt => ?_) (fun hlt => ?_)
  · skip
    refine J.skip ?_
    refine J.seq ?_
    refine J.block ?_
    refine J.seq ?_
    refine J.region ?_
    refine JL.go trivial (RX.movev (v := Value.int _ _) rfl) ?_
    refine JL.go trivial (RX.assignv (v := Value.int _ _) rfl) ?_
    refine JL.nil ?_
    refine J.region ?_
    refine JL.go trivial (RX.movev (v := Value.slice _ _ _) rfl) ?_
    refine JL.go trivial (RX.movev (v := Value.int _ _) rfl) ?_
    refine JL.go trivial (RX.movev (v := Value.int _ _) rfl) ?_
    refine JL.go trivial (RX.movev (v := Value.int _ _) rfl) ?_
    refine JL.does trivial (EX.call rfl cl14 rfl ((Root_b H hn (by omega) (by constructor <;> omega)))) ?_
    rintro _ w ⟨a, b, rfl, ha, hb, H⟩
    refine JL.go trivial (RX.movev (v := Value.tuple _) rfl) ?_
    refine JL.go trivial (RX.extract rfl rfl) ?_
    refine JL.go trivial (RX.extract rfl rfl) ?_
    refine JL.go trivial (RX.indexAddr rfl rfl sl31 (by omega) (by omega) (o' := k) (by omega)) ?_
    refine JL.does trivial (EX.store (v := Value.complex _ _ _) H rfl rfl (i := 0) rfl rfl (by omega) sz26 rfl rfl) ?_
    rintro _ w H
    refine JL.nil ?_
    refine J.inBlock ?_
    refine J.region ?_
    refine JL.go trivial (RX.add rfl rfl (w_i64 (r := ((k + 1 : Nat) : Int)) (by omega) (by omega) (by omega))) ?_
    refine JL.go trivial (RX.movev (v := Value.int _ _) rfl) ?_
    refine JL.nil ?_
    exact IH (k + 1, xs.set k (.complex .f64 a b)) _ _ (by simp only; omega) ⟨rfl, rfl, rfl, trivial⟩ ⟨rfl, trivial⟩ ⟨by simp only; omega, by rw [List.length_set]; exact hl, hr.step (by omega) ha hb, H⟩
  · skip
    have hkk : k = n.toNat := by omega
    subst hkk
    refine J.exit rfl ?_
    refine J.seq ?_
    refine J.region ?_
    refine JL.go trivial (RX.movev (v := Value.slice _ _ _) rfl) ?_
    refine JL.go trivial (RX.assignv (v := Value.slice _ _ _) rfl) ?_
    refine JL.go trivial (RX.assign) ?_
    refine JL.nil ?_
    refine J.ret2 (v := Value.slice _ _ _) Tryd.func16 rfl rfl rfl ?_
    exact ⟨_, rfl, b1, xs, rfl, ⟨hl, hr⟩, H⟩
end Go.Proofs.YtmppcnbkfjeabaaDoor
