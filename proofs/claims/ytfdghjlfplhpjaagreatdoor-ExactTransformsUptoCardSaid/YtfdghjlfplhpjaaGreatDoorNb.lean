/- Primes, factors, least roots, inverses, as the program and the reference find them. -/
import Derived.Test.YtfdghjlfplhpjaaGreatDoorAr
namespace Go.Proofs.YtfdghjlfplhpjaaGreatDoor
open Go Go.Eng
set_option maxRecDepth 100000
set_option linter.unusedVariables false
set_option linter.unusedSimpArgs false
theorem cl53 : callable Tryz.prog 53 = true := by kernel_rfl

def intsV (l : List Int) : List Value := l.map (Value.int .i64)
theorem intsV_len (l : List Int) : (intsV l).length = l.length := by simp [intsV]
theorem intsV_get {l : List Int} {i : Nat} {k : Int} (h : l[i]? = some k) : (intsV l)[i]? = some (.int .i64 k) := by simp [intsV, h]
theorem intsV_app (a b : List Int) : intsV (a ++ b) = intsV a ++ intsV b := by simp [intsV]
theorem intsV_cell (l : List Int) : ∀ v ∈ intsV l, isCell v = true := by
  intro v hv; obtain ⟨b, _, rfl⟩ := List.mem_map.1 hv; rfl
theorem elI : Elem Tryz.prog 88 3 1 8 := Elem.of (by kernel_rfl)
def facL (n : Int) (out : List Int) : List Int := if 1 < n then out ++ [n] else out
theorem GoodP.factors {p g : Nat} {fs : List Int} (h : GoodP p g fs) : ∃ n out, trialF 100 (((p - 1 : Nat)) : Int) 2 [] = some (n, out) ∧ facL n out = fs := by
  have hf := h.fac
  have hlo := h.lo
  unfold facOK at hf
  rw [show ((p : Int) - 1) = ((p - 1 : Nat) : Int) by omega] at hf
  split at hf
  · next n out he => exact ⟨n, out, he, by simpa [facL] using hf⟩
  · cases hf
theorem GoodP.trial {p g : Nat} {fs : List Int} (h : GoodP p g fs) : trialF 65537 (p : Int) 2 [] = some ((p : Int), []) :=
  trial_prime h.pr 65536 2 (by decide) (by have := h.hi; omega) []
theorem GoodP.small {p g : Nat} {fs : List Int} (h : GoodP p g fs) : g ≤ 1000 ∧ fs.length ≤ 100 := by
  have := h.gen
  unfold genOK at this
  rw [Bool.and_eq_true, Bool.and_eq_true] at this
  exact ⟨of_decide_eq_true this.1.1, of_decide_eq_true this.1.2⟩
theorem GoodP.ne {p g : Nat} {fs : List Int} (h : GoodP p g fs) {q : Int} (hq : q ∈ fs) : 0 < q ∧ q < 100 ∧ pw p g ((p - 1) / q.toNat) ≠ 1 := by
  have := h.gen
  unfold genOK at this
  rw [Bool.and_eq_true, Bool.and_eq_true (fs.all _), List.all_eq_true] at this
  have h1 := this.2.1 q hq
  rw [Bool.and_eq_true, Bool.and_eq_true] at h1
  have h2 := h.hi
  refine ⟨of_decide_eq_true h1.1.1, of_decide_eq_true h1.1.2, ?_⟩
  rw [← pm_eq p 32 g _ (Nat.lt_of_le_of_lt (Nat.div_le_self _ _) (by omega))]
  simpa using h1.2
theorem GoodP.has {p g : Nat} {fs : List Int} (h : GoodP p g fs) {k : Nat} (h1 : 1 ≤ k) (h2 : k < g) : ∃ q ∈ fs, pw p k ((p - 1) / q.toNat) = 1 := by
  have := h.gen
  unfold genOK at this
  rw [Bool.and_eq_true, Bool.and_eq_true (fs.all _), List.all_eq_true, List.all_eq_true] at this
  have h3 := this.2.2 k (List.mem_range.2 h2)
  rw [Bool.or_eq_true, List.any_eq_true] at h3
  rcases h3 with h3 | ⟨q, hq, h3⟩
  · have : k = 0 := by simpa using h3
    omega
  · refine ⟨q, hq, ?_⟩
    have hh := h.hi
    rw [← pm_eq p 32 k _ (Nat.lt_of_le_of_lt (Nat.div_le_self _ _) (by omega))]
    simpa using h3
theorem GoodP.gpos {p g : Nat} {fs : List Int} (h : GoodP p g fs) : 1 ≤ g := by
  refine Nat.one_le_iff_ne_zero.2 fun h0 => ?_
  have h1 := h.one
  have h2 := h.lo
  subst h0
  unfold pw at h1
  rw [Nat.zero_pow (by omega), Nat.zero_mod] at h1
  cases h1
/-- All the tests at the first i factors fail. -/
def AllNe (p h : Nat) (fs : List Int) (i : Nat) : Prop := ∀ j q, j < i → fs[j]? = some q → pw p h ((p - 1) / q.toNat) ≠ 1
theorem AllNe.step {p h : Nat} {fs : List Int} {i : Nat} {q : Int} (ha : AllNe p h fs i) (hq : fs[i]? = some q) (hn : pw p h ((p - 1) / q.toNat) ≠ 1) : AllNe p h fs (i + 1) := by
  intro j r hj hr
  by_cases e : j = i
  · subst e; rw [hq] at hr; cases hr; exact hn
  · exact ha j r (by omega) hr
theorem GoodP.found {p g h : Nat} {fs : List Int} (G : GoodP p g fs) (h1 : 1 ≤ h) (h2 : h ≤ g) (ha : AllNe p h fs fs.length) : h = g := by
  refine Nat.le_antisymm h2 (Nat.not_lt.1 fun hc => ?_)
  obtain ⟨q, hq, hp⟩ := G.has h1 hc
  obtain ⟨j, hj⟩ := List.mem_iff_getElem?.1 hq
  exact ha j q ((List.getElem?_eq_some_iff.1 hj).1) hj hp
theorem GoodP.all {p g : Nat} {fs : List Int} (G : GoodP p g fs) (i : Nat) : AllNe p g fs i := fun _ _ _ hq => (G.ne (List.mem_of_getElem? hq)).2.2
theorem quo_int {a : Nat} {q : Int} (hq : 0 < q) : ((a : Nat) : Int).tdiv q = ((a / q.toNat : Nat) : Int) := by
  rw [Int.tdiv_eq_ediv_of_nonneg (by omega)]
  conv => lhs; rw [show q = ((q.toNat : Nat) : Int) by omega]
  omega
theorem GoodP.euclid {p g : Nat} {fs : List Int} (h : GoodP p g fs) {n : Nat} (h1 : 1 ≤ n) (h2 : n ≤ 1024) (h3 : (p - 1) % n = 0) : ∃ x, euF p 64 p (n % p) 0 1 = some (1, x) ∧ x % p = pw p n (p - 2) := by
  have := h.inv
  unfold invOK at this
  rw [List.all_eq_true] at this
  have h4 := this n (List.mem_range.2 (by omega))
  rw [Bool.or_eq_true, Bool.or_eq_true] at h4
  rcases h4 with (h4 | h4) | h4
  · have : n = 0 := by simpa using h4
    omega
  · rw [h3] at h4; cases h4
  · split at h4
    · next r x he =>
      rw [Bool.and_eq_true] at h4
      have hr : r = 1 := by simpa using h4.1
      subst hr
      have hh := h.hi
      exact ⟨x, he, by rw [← pm_eq p 32 n _ (by omega)]; simpa using h4.2⟩
    · cases h4
theorem lessN_lt {m a b : Nat} (ha : a < m) (hb : b < m) : lessN m a b < m := by
  unfold lessN; split <;> omega

theorem Prime_b {w0 w : World} {F : List Seg} (H : Hp w0 w F) {p g : Nat} {fs : List Int} (G : GoodP p g fs) : Ret Tryz.prog 66 [.int .i64 ((p : Nat) : Int)] w fun v w' => v = .bool true ∧ Hp w0 w' F := by
  refine Calls.of_J (n := 21) Tryz.func66 rfl rfl rfl ?_
  refine J.seq ?_
  have h1 := G.lo
  have h2 := G.hi
  refine J.region ?_
  refine JL.go trivial (RX.assign) ?_
  refine JL.nil ?_
  refine J.seq ?_
  refine J.seq ?_
  refine J.region ?_
  refine JL.go trivial (RX.movev (v := Value.int _ _) rfl) ?_
  refine JL.go trivial (RX.lt rfl rfl) ?_
  refine JL.go trivial (RX.movev (v := Value.bool _) rfl) ?_
  refine JL.go ⟨_, rfl, (decide_eq_false (by omega))⟩ (RX.movev (v := Value.int _ _) rfl) ?_
  refine JL.go ⟨_, rfl, (decide_eq_false (by omega))⟩ (RX.gt rfl rfl) ?_
  refine JL.go trivial (RX.pick_f rfl (decide_eq_false (by omega))) ?_
  refine JL.nil ?_
  refine J.cond_f rfl (decide_eq_false (by omega)) ?_
  refine J.skip ?_
  refine J.seq ?_
  refine J.seq ?_
  refine J.region ?_
  refine JL.go trivial (RX.assign) ?_
  refine JL.nil ?_
  refine J.block ?_
  refine J.loop (ι := Nat) (S := fun d => [(3, .int .i64 ((d : Nat) : Int))]) (Φ := fun d w => 2 ≤ d ∧ d ≤ 65536 ∧ Hp w0 w F) (μ := fun d => 65536 - d) (C := [(0, _)]) 2 ⟨rfl, trivial⟩ ⟨rfl, trivial⟩ ?_ ?_
  · exact ⟨by omega, by omega, H⟩
  clear H
  rintro d ρ w ⟨hd, hd2, H⟩ IH
  have hq : d * d ≤ 65536 * 65536 := Nat.mul_le_mul hd2 hd2
  refine J.seq ?_
  refine J.seq ?_
  refine J.region ?_
  refine JL.go trivial (RX.movev (v := Value.int _ _) rfl) ?_
  refine JL.go trivial (RX.movev (v := Value.int _ _) rfl) ?_
  refine JL.go trivial (RX.mul rfl rfl (wi (n := d * d) (by rw [Int.natCast_mul]) (by omega))) ?_
  refine JL.go trivial (RX.movev (v := Value.int _ _) rfl) ?_
  refine JL.go trivial (RX.le rfl rfl) ?_
  refine JL.nil ?_
  refine J.cond_d rfl (fun hle => ?_) (fun hle => ?_)
  · skip
    have hdd : d * d ≤ p := by omega
    have hd3 : d < 65536 := by
      refine Nat.lt_of_le_of_ne hd2 fun he => ?_
      subst he; omega
    have hm := G.pr d hd hdd
    refine J.skip ?_
    refine J.seq ?_
    refine J.block ?_
    refine J.seq ?_
    refine J.region ?_
    refine JL.go trivial (RX.movev (v := Value.int _ _) rfl) ?_
    refine JL.go trivial (RX.movev (v := Value.int _ _) rfl) ?_
    refine JL.go trivial (RX.rem rfl rfl (by omega) rem_nat) ?_
    refine JL.go trivial (RX.eq rfl rfl) ?_
    refine JL.nil ?_
    refine J.cond_f rfl (decide_eq_false (by omega)) ?_
    refine J.skip ?_
    refine J.inBlock ?_
    refine J.region ?_
    refine JL.go trivial (RX.movev (v := Value.int _ _) rfl) ?_
    refine JL.go trivial (RX.add rfl rfl (wi (n := d + 1) (by omega) (by omega))) ?_
    refine JL.go trivial (RX.assignv (v := Value.int _ _) rfl) ?_
    refine JL.nil ?_
    exact IH (d + 1) _ _ (by omega) ⟨rfl, trivial⟩ ⟨rfl, trivial⟩ ⟨by omega, by omega, H⟩
  · skip
    refine J.exit rfl ?_
    refine J.seq ?_
    refine J.region ?_
    refine JL.go trivial (RX.assign) ?_
    refine JL.nil ?_
    refine J.ret1 (v := Value.bool _) Tryz.func66 rfl rfl ?_
    exact ⟨_, rfl, rfl, H⟩
theorem Factors_b {w0 w : World} {F : List Seg} (H : Hp w0 w F) {n f0 : Nat} {n1 : Int} {out1 : List Int} (hn : 2 ≤ n) (hn2 : n ≤ 4294967296) (hf : f0 ≤ 70000) (ht : trialF f0 (n : Int) 2 [] = some (n1, out1)) : Ret Tryz.prog 67 [.int .i64 ((n : Nat) : Int)] w fun v w' => ∃ p c sl, v = .slice p (facL n1 out1).length c ∧ OwnSl 3 1 p (facL n1 out1).length c (intsV (facL n1 out1)) sl ∧ Hp w0 w' (sl :: F) := by
  refine Calls.of_J (n := 37) Tryz.func67 rfl rfl rfl ?_
  refine J.seq ?_
  have hn1 : ¬ ((n : Nat) : Int) < 2 := by omega
  refine J.region ?_
  refine JL.go trivial (RX.assign) ?_
  refine JL.nil ?_
  refine J.seq ?_
  refine J.region ?_
  refine JL.go trivial (RX.assign) ?_
  refine JL.nil ?_
  refine J.seq ?_
  refine J.seq ?_
  refine J.region ?_
  refine JL.go trivial (RX.movev (v := Value.int _ _) rfl) ?_
  refine JL.go trivial (RX.lt rfl rfl) ?_
  refine JL.go trivial (RX.movev (v := Value.bool _) rfl) ?_
  refine JL.go ⟨_, rfl, (decide_eq_false (by omega))⟩ (RX.movev (v := Value.int _ _) rfl) ?_
  refine JL.go ⟨_, rfl, (decide_eq_false (by omega))⟩ (RX.gt rfl rfl) ?_
  refine JL.go trivial (RX.pick_f rfl (decide_eq_false (by omega))) ?_
  refine JL.nil ?_
  refine J.cond_f rfl (decide_eq_false (by omega)) ?_
  refine J.skip ?_
  refine J.seq ?_
  refine J.seq ?_
  refine J.region ?_
  refine JL.go trivial (RX.assign) ?_
  refine JL.nil ?_
  refine J.block ?_
  refine J.loop (ι := Nat × Int × Nat × List Int × Option Addr × Nat × Seg) (S := fun z => [(0, .int .i64 z.2.1), (4, .int .i64 ((z.2.2.1 : Nat) : Int)), (3, .slice z.2.2.2.2.1 z.2.2.2.1.length z.2.2.2.2.2.1)]) (Φ := fun z w => trialF z.1 z.2.1 (z.2.2.1 : Int) z.2.2.2.1 = some (n1, out1) ∧ 0 ≤ z.2.1 ∧ z.2.1 ≤ 4294967296 ∧ 2 ≤ z.2.2.1 ∧ z.2.2.1 ≤ 65537 ∧ z.2.2.2.1.length + 64 * z.1 ≤ 64 * f0 ∧ OwnSl 3 1 z.2.2.2.2.1 z.2.2.2.1.length z.2.2.2.2.2.1 (intsV z.2.2.2.1) z.2.2.2.2.2.2 ∧ Hp w0 w (z.2.2.2.2.2.2 :: F)) (μ := fun z => z.1) (C := []) (f0, (n : Int), 2, [], none, 0, []) trivial ⟨rfl, rfl, rfl, trivial⟩ ?_ ?_
  · exact ⟨ht, by simp only; omega, by simp only; omega, by simp, by simp, by simp, OwnSl.nil, H.nil⟩
  clear H
  rintro ⟨fu, a, d, o, pp, c, sl⟩ ρ w ⟨ht, ha0, ha1, hd, hd2, hol, ho, H⟩ IH
  simp only at ht ha0 ha1 hd hd2 hol ho H
  have hq : d * d ≤ 65537 * 65537 := Nat.mul_le_mul hd2 hd2
  obtain ⟨fu, rfl⟩ : ∃ q, fu = q + 1 := by
    cases fu with
    | zero => cases ht
    | succ q => exact ⟨q, rfl⟩
  rw [trialF] at ht
  dsimp only
  refine J.seq ?_
  refine J.seq ?_
  refine J.region ?_
  refine JL.go trivial (RX.movev (v := Value.int _ _) rfl) ?_
  refine JL.go trivial (RX.movev (v := Value.int _ _) rfl) ?_
  refine JL.go trivial (RX.mul rfl rfl (wi (n := d * d) (by rw [Int.natCast_mul]) (by omega))) ?_
  refine JL.go trivial (RX.movev (v := Value.int _ _) rfl) ?_
  refine JL.go trivial (RX.le rfl rfl) ?_
  refine JL.nil ?_
  refine J.cond_d rfl (fun hle => ?_) (fun hle => ?_)
  · skip
    have hle2 : (d : Int) * (d : Int) ≤ a := by rw [← Int.natCast_mul]; exact hle
    rw [if_pos hle2] at ht
    have hd3 : d < 65537 := by
      refine Nat.lt_of_le_of_ne hd2 fun he => ?_
      subst he; omega
    obtain ⟨a2, o2, hs2, ht2⟩ : ∃ a2 o2, stripF 64 a (d : Int) o = some (a2, o2) ∧ trialF fu a2 ((d : Int) + 1) o2 = some (n1, out1) := by
      split at ht
      · next x y he => exact ⟨x, y, he, ht⟩
      · cases ht
    refine J.skip ?_
    refine J.seq ?_
    refine J.block ?_
    refine J.block ?_
    refine J.loop (ι := Nat × Int × List Int × Option Addr × Nat × Seg) (S := fun z => [(0, .int .i64 z.2.1), (3, .slice z.2.2.2.1 z.2.2.1.length z.2.2.2.2.1)]) (Φ := fun z w => stripF z.1 z.2.1 (d : Int) z.2.2.1 = some (a2, o2) ∧ 0 ≤ z.2.1 ∧ z.2.1 ≤ 4294967296 ∧ z.2.2.1.length + z.1 ≤ o.length + 64 ∧ OwnSl 3 1 z.2.2.2.1 z.2.2.1.length z.2.2.2.2.1 (intsV z.2.2.1) z.2.2.2.2.2 ∧ Hp w0 w (z.2.2.2.2.2 :: F)) (μ := fun z => z.1) (C := [(4, _)]) (64, a, o, pp, c, sl) ⟨rfl, trivial⟩ ⟨rfl, rfl, trivial⟩ ?_ ?_
    · exact ⟨hs2, ha0, ha1, by simp, ho, H⟩
    clear H ho hs2
    rintro ⟨k, b, o3, pp, c, sl⟩ ρ w ⟨hs2, hb0, hb1, hol3, ho, H⟩ IH2
    simp only at hs2 hb0 hb1 hol3 ho H
    obtain ⟨k, rfl⟩ : ∃ q, k = q + 1 := by
      cases k with
      | zero => cases hs2
      | succ q => exact ⟨q, rfl⟩
    rw [stripF] at hs2
    dsimp only
    refine J.seq ?_
    refine J.seq ?_
    refine J.region ?_
    refine JL.go trivial (RX.movev (v := Value.int _ _) rfl) ?_
    refine JL.go trivial (RX.movev (v := Value.int _ _) rfl) ?_
    refine JL.go trivial (RX.rem rfl rfl (by omega) rfl) ?_
    refine JL.go trivial (RX.eq rfl rfl) ?_
    refine JL.nil ?_
    refine J.cond_d rfl (fun hz => ?_) (fun hz => ?_)
    · skip
      rw [if_pos hz] at hs2
      have hbd : b.tdiv (d : Int) ≤ b := by rw [Int.tdiv_eq_ediv_of_nonneg hb0]; exact Int.ediv_le_self _ hb0
      have hbd0 : 0 ≤ b.tdiv (d : Int) := Int.tdiv_nonneg hb0 (by omega)
      refine J.skip ?_
      refine J.block ?_
      refine J.seq ?_
      refine J.region ?_
      refine JL.go trivial (RX.movev (v := Value.slice _ _ _) rfl) ?_
      refine JL.go trivial (RX.movev (v := Value.int _ _) rfl) ?_
      refine JL.does trivial (EX.buildSlice1 H elI rfl rfl) ?_
      rintro _ w ⟨bz, rfl, H⟩
      refine JL.does trivial (EX.append (ys := [.int .i64 (d : Int)]) (L' := fun s' => [(bz, cel [.int .i64 (d : Int)] 3)] :: s' :: F) H elI rfl rfl (i := 1) rfl ho (SlAt.here rfl) rfl (intsV_cell [(d : Int)]) (by decide) (by omega) (by omega) (fun _ => rfl)) ?_
      rintro _ w ⟨p3, c3, s3, rfl, ho3, H⟩
      replace ho3 : OwnSl 3 1 p3 (o3 ++ [(d : Int)]).length c3 (intsV (o3 ++ [(d : Int)])) s3 := by rw [List.length_append, intsV_app]; exact ho3
      refine JL.go trivial (RX.assignv (v := Value.slice _ _ _) rfl) ?_
      refine JL.nil ?_
      refine J.region ?_
      refine JL.go trivial (RX.movev (v := Value.int _ _) rfl) ?_
      refine JL.go trivial (RX.movev (v := Value.int _ _) rfl) ?_
      refine JL.go trivial (RX.quo rfl rfl (by omega) (w_i64 rfl (by omega) (by omega))) ?_
      refine JL.go trivial (RX.assignv (v := Value.int _ _) rfl) ?_
      refine JL.nil ?_
      refine J.inBlock ?_
      refine IH2 (k, b.tdiv (d : Int), o3 ++ [(d : Int)], p3, c3, s3) _ _ (by simp only; omega) ⟨rfl, trivial⟩ ⟨rfl, by simp only [List.length_append]; rfl, trivial⟩ ⟨hs2, hbd0, by simp only; omega, by simp only [List.length_append, List.length_cons, List.length_nil]; omega, ho3, H.drop⟩
    · skip
      rw [if_neg hz] at hs2
      obtain ⟨rfl, rfl⟩ : b = a2 ∧ o3 = o2 := by simpa using hs2
      refine J.exit rfl ?_
      refine J.inBlock ?_
      refine J.region ?_
      refine JL.go trivial (RX.movev (v := Value.int _ _) rfl) ?_
      refine JL.go trivial (RX.add rfl rfl (wi (n := d + 1) (by omega) (by omega))) ?_
      refine JL.go trivial (RX.assignv (v := Value.int _ _) rfl) ?_
      refine JL.nil ?_
      exact IH (fu, b, d + 1, o3, pp, c, sl) _ _ (by simp only; omega) trivial ⟨rfl, rfl, rfl, trivial⟩ ⟨by simp only; rw [show ((d + 1 : Nat) : Int) = (d : Int) + 1 by omega]; exact ht2, hb0, hb1, by simp only; omega, by simp only; omega, by simp only; omega, ho, H⟩
  · skip
    have hle2 : ¬ (d : Int) * (d : Int) ≤ a := by rw [← Int.natCast_mul]; exact hle
    rw [if_neg hle2] at ht
    obtain ⟨rfl, rfl⟩ : a = n1 ∧ o = out1 := by simpa using ht
    refine J.exit rfl ?_
    refine J.seq ?_
    refine J.seq ?_
    refine J.region ?_
    refine JL.go trivial (RX.movev (v := Value.int _ _) rfl) ?_
    refine JL.go trivial (RX.gt rfl rfl) ?_
    refine JL.nil ?_
    refine J.cond_d rfl (fun h1 => ?_) (fun h1 => ?_)
    · skip
      refine J.region ?_
      refine JL.go trivial (RX.movev (v := Value.slice _ _ _) rfl) ?_
      refine JL.go trivial (RX.movev (v := Value.int _ _) rfl) ?_
      refine JL.does trivial (EX.buildSlice1 H elI rfl rfl) ?_
      rintro _ w ⟨bz, rfl, H⟩
      refine JL.does trivial (EX.append (ys := [.int .i64 a]) (L' := fun s' => [(bz, cel [.int .i64 a] 3)] :: s' :: F) H elI rfl rfl (i := 1) rfl ho (SlAt.here rfl) rfl (intsV_cell [a]) (by decide) (by omega) (by omega) (fun _ => rfl)) ?_
      rintro _ w ⟨p3, c3, s3, rfl, ho3, H⟩
      refine JL.go trivial (RX.assignv (v := Value.slice _ _ _) rfl) ?_
      refine JL.nil ?_
      refine J.seq ?_
      refine J.region ?_
      refine JL.go trivial (RX.movev (v := Value.slice _ _ _) rfl) ?_
      refine JL.go trivial (RX.assignv (v := Value.slice _ _ _) rfl) ?_
      refine JL.nil ?_
      refine J.ret1 (v := Value.slice _ _ _) Tryz.func67 rfl rfl ?_
      rw [facL, if_pos h1]
      exact ⟨_, rfl, p3, c3, s3, by rw [List.length_append]; rfl, by rw [List.length_append, intsV_app]; exact ho3, H.drop⟩
    · skip
      refine J.skip ?_
      refine J.seq ?_
      refine J.region ?_
      refine JL.go trivial (RX.movev (v := Value.slice _ _ _) rfl) ?_
      refine JL.go trivial (RX.assignv (v := Value.slice _ _ _) rfl) ?_
      refine JL.nil ?_
      refine J.ret1 (v := Value.slice _ _ _) Tryz.func67 rfl rfl ?_
      rw [facL, if_neg h1]
      exact ⟨_, rfl, pp, c, sl, rfl, ho, H⟩
theorem rFactors_b {w0 w : World} {F : List Seg} (H : Hp w0 w F) {n f0 : Nat} {n1 : Int} {out1 : List Int} (hn : 2 ≤ n) (hn2 : n ≤ 4294967296) (hf : f0 ≤ 70000) (ht : trialF f0 (n : Int) 2 [] = some (n1, out1)) : Ret Tryz.prog 70 [.int .i64 ((n : Nat) : Int)] w fun v w' => ∃ p c sl, v = .slice p (facL n1 out1).length c ∧ OwnSl 3 1 p (facL n1 out1).length c (intsV (facL n1 out1)) sl ∧ Hp w0 w' (sl :: F) := by
  refine Calls.of_J (n := 37) Tryz.func70 rfl rfl rfl ?_
  refine J.seq ?_
  have hn1 : ¬ ((n : Nat) : Int) < 2 := by omega
  refine J.region ?_
  refine JL.go trivial (RX.assign) ?_
  refine JL.nil ?_
  refine J.seq ?_
  refine J.region ?_
  refine JL.go trivial (RX.assign) ?_
  refine JL.nil ?_
  refine J.seq ?_
  refine J.seq ?_
  refine J.region ?_
  refine JL.go trivial (RX.movev (v := Value.int _ _) rfl) ?_
  refine JL.go trivial (RX.lt rfl rfl) ?_
  refine JL.go trivial (RX.movev (v := Value.bool _) rfl) ?_
  refine JL.go ⟨_, rfl, (decide_eq_false (by omega))⟩ (RX.movev (v := Value.int _ _) rfl) ?_
  refine JL.go ⟨_, rfl, (decide_eq_false (by omega))⟩ (RX.gt rfl rfl) ?_
  refine JL.go trivial (RX.pick_f rfl (decide_eq_false (by omega))) ?_
  refine JL.nil ?_
  refine J.cond_f rfl (decide_eq_false (by omega)) ?_
  refine J.skip ?_
  refine J.seq ?_
  refine J.seq ?_
  refine J.region ?_
  refine JL.go trivial (RX.assign) ?_
  refine JL.nil ?_
  refine J.block ?_
  refine J.loop (ι := Nat × Int × Nat × List Int × Option Addr × Nat × Seg) (S := fun z => [(0, .int .i64 z.2.1), (4, .int .i64 ((z.2.2.1 : Nat) : Int)), (3, .slice z.2.2.2.2.1 z.2.2.2.1.length z.2.2.2.2.2.1)]) (Φ := fun z w => trialF z.1 z.2.1 (z.2.2.1 : Int) z.2.2.2.1 = some (n1, out1) ∧ 0 ≤ z.2.1 ∧ z.2.1 ≤ 4294967296 ∧ 2 ≤ z.2.2.1 ∧ z.2.2.1 ≤ 65537 ∧ z.2.2.2.1.length + 64 * z.1 ≤ 64 * f0 ∧ OwnSl 3 1 z.2.2.2.2.1 z.2.2.2.1.length z.2.2.2.2.2.1 (intsV z.2.2.2.1) z.2.2.2.2.2.2 ∧ Hp w0 w (z.2.2.2.2.2.2 :: F)) (μ := fun z => z.1) (C := []) (f0, (n : Int), 2, [], none, 0, []) trivial ⟨rfl, rfl, rfl, trivial⟩ ?_ ?_
  · exact ⟨ht, by simp only; omega, by simp only; omega, by simp, by simp, by simp, OwnSl.nil, H.nil⟩
  clear H
  rintro ⟨fu, a, d, o, pp, c, sl⟩ ρ w ⟨ht, ha0, ha1, hd, hd2, hol, ho, H⟩ IH
  simp only at ht ha0 ha1 hd hd2 hol ho H
  have hq : d * d ≤ 65537 * 65537 := Nat.mul_le_mul hd2 hd2
  obtain ⟨fu, rfl⟩ : ∃ q, fu = q + 1 := by
    cases fu with
    | zero => cases ht
    | succ q => exact ⟨q, rfl⟩
  rw [trialF] at ht
  dsimp only
  refine J.seq ?_
  refine J.seq ?_
  refine J.region ?_
  refine JL.go trivial (RX.movev (v := Value.int _ _) rfl) ?_
  refine JL.go trivial (RX.movev (v := Value.int _ _) rfl) ?_
  refine JL.go trivial (RX.mul rfl rfl (wi (n := d * d) (by rw [Int.natCast_mul]) (by omega))) ?_
  refine JL.go trivial (RX.movev (v := Value.int _ _) rfl) ?_
  refine JL.go trivial (RX.le rfl rfl) ?_
  refine JL.nil ?_
  refine J.cond_d rfl (fun hle => ?_) (fun hle => ?_)
  · skip
    have hle2 : (d : Int) * (d : Int) ≤ a := by rw [← Int.natCast_mul]; exact hle
    rw [if_pos hle2] at ht
    have hd3 : d < 65537 := by
      refine Nat.lt_of_le_of_ne hd2 fun he => ?_
      subst he; omega
    obtain ⟨a2, o2, hs2, ht2⟩ : ∃ a2 o2, stripF 64 a (d : Int) o = some (a2, o2) ∧ trialF fu a2 ((d : Int) + 1) o2 = some (n1, out1) := by
      split at ht
      · next x y he => exact ⟨x, y, he, ht⟩
      · cases ht
    refine J.skip ?_
    refine J.seq ?_
    refine J.block ?_
    refine J.block ?_
    refine J.loop (ι := Nat × Int × List Int × Option Addr × Nat × Seg) (S := fun z => [(0, .int .i64 z.2.1), (3, .slice z.2.2.2.1 z.2.2.1.length z.2.2.2.2.1)]) (Φ := fun z w => stripF z.1 z.2.1 (d : Int) z.2.2.1 = some (a2, o2) ∧ 0 ≤ z.2.1 ∧ z.2.1 ≤ 4294967296 ∧ z.2.2.1.length + z.1 ≤ o.length + 64 ∧ OwnSl 3 1 z.2.2.2.1 z.2.2.1.length z.2.2.2.2.1 (intsV z.2.2.1) z.2.2.2.2.2 ∧ Hp w0 w (z.2.2.2.2.2 :: F)) (μ := fun z => z.1) (C := [(4, _)]) (64, a, o, pp, c, sl) ⟨rfl, trivial⟩ ⟨rfl, rfl, trivial⟩ ?_ ?_
    · exact ⟨hs2, ha0, ha1, by simp, ho, H⟩
    clear H ho hs2
    rintro ⟨k, b, o3, pp, c, sl⟩ ρ w ⟨hs2, hb0, hb1, hol3, ho, H⟩ IH2
    simp only at hs2 hb0 hb1 hol3 ho H
    obtain ⟨k, rfl⟩ : ∃ q, k = q + 1 := by
      cases k with
      | zero => cases hs2
      | succ q => exact ⟨q, rfl⟩
    rw [stripF] at hs2
    dsimp only
    refine J.seq ?_
    refine J.seq ?_
    refine J.region ?_
    refine JL.go trivial (RX.movev (v := Value.int _ _) rfl) ?_
    refine JL.go trivial (RX.movev (v := Value.int _ _) rfl) ?_
    refine JL.go trivial (RX.rem rfl rfl (by omega) rfl) ?_
    refine JL.go trivial (RX.eq rfl rfl) ?_
    refine JL.nil ?_
    refine J.cond_d rfl (fun hz => ?_) (fun hz => ?_)
    · skip
      rw [if_pos hz] at hs2
      have hbd : b.tdiv (d : Int) ≤ b := by rw [Int.tdiv_eq_ediv_of_nonneg hb0]; exact Int.ediv_le_self _ hb0
      have hbd0 : 0 ≤ b.tdiv (d : Int) := Int.tdiv_nonneg hb0 (by omega)
      refine J.skip ?_
      refine J.block ?_
      refine J.seq ?_
      refine J.region ?_
      refine JL.go trivial (RX.movev (v := Value.slice _ _ _) rfl) ?_
      refine JL.go trivial (RX.movev (v := Value.int _ _) rfl) ?_
      refine JL.does trivial (EX.buildSlice1 H elI rfl rfl) ?_
      rintro _ w ⟨bz, rfl, H⟩
      refine JL.does trivial (EX.append (ys := [.int .i64 (d : Int)]) (L' := fun s' => [(bz, cel [.int .i64 (d : Int)] 3)] :: s' :: F) H elI rfl rfl (i := 1) rfl ho (SlAt.here rfl) rfl (intsV_cell [(d : Int)]) (by decide) (by omega) (by omega) (fun _ => rfl)) ?_
      rintro _ w ⟨p3, c3, s3, rfl, ho3, H⟩
      replace ho3 : OwnSl 3 1 p3 (o3 ++ [(d : Int)]).length c3 (intsV (o3 ++ [(d : Int)])) s3 := by rw [List.length_append, intsV_app]; exact ho3
      refine JL.go trivial (RX.assignv (v := Value.slice _ _ _) rfl) ?_
      refine JL.nil ?_
      refine J.region ?_
      refine JL.go trivial (RX.movev (v := Value.int _ _) rfl) ?_
      refine JL.go trivial (RX.movev (v := Value.int _ _) rfl) ?_
      refine JL.go trivial (RX.quo rfl rfl (by omega) (w_i64 rfl (by omega) (by omega))) ?_
      refine JL.go trivial (RX.assignv (v := Value.int _ _) rfl) ?_
      refine JL.nil ?_
      refine J.inBlock ?_
      refine IH2 (k, b.tdiv (d : Int), o3 ++ [(d : Int)], p3, c3, s3) _ _ (by simp only; omega) ⟨rfl, trivial⟩ ⟨rfl, by simp only [List.length_append]; rfl, trivial⟩ ⟨hs2, hbd0, by simp only; omega, by simp only [List.length_append, List.length_cons, List.length_nil]; omega, ho3, H.drop⟩
    · skip
      rw [if_neg hz] at hs2
      obtain ⟨rfl, rfl⟩ : b = a2 ∧ o3 = o2 := by simpa using hs2
      refine J.exit rfl ?_
      refine J.inBlock ?_
      refine J.region ?_
      refine JL.go trivial (RX.movev (v := Value.int _ _) rfl) ?_
      refine JL.go trivial (RX.add rfl rfl (wi (n := d + 1) (by omega) (by omega))) ?_
      refine JL.go trivial (RX.assignv (v := Value.int _ _) rfl) ?_
      refine JL.nil ?_
      exact IH (fu, b, d + 1, o3, pp, c, sl) _ _ (by simp only; omega) trivial ⟨rfl, rfl, rfl, trivial⟩ ⟨by simp only; rw [show ((d + 1 : Nat) : Int) = (d : Int) + 1 by omega]; exact ht2, hb0, hb1, by simp only; omega, by simp only; omega, by simp only; omega, ho, H⟩
  · skip
    have hle2 : ¬ (d : Int) * (d : Int) ≤ a := by rw [← Int.natCast_mul]; exact hle
    rw [if_neg hle2] at ht
    obtain ⟨rfl, rfl⟩ : a = n1 ∧ o = out1 := by simpa using ht
    refine J.exit rfl ?_
    refine J.seq ?_
    refine J.seq ?_
    refine J.region ?_
    refine JL.go trivial (RX.movev (v := Value.int _ _) rfl) ?_
    refine JL.go trivial (RX.gt rfl rfl) ?_
    refine JL.nil ?_
    refine J.cond_d rfl (fun h1 => ?_) (fun h1 => ?_)
    · skip
      refine J.region ?_
      refine JL.go trivial (RX.movev (v := Value.slice _ _ _) rfl) ?_
      refine JL.go trivial (RX.movev (v := Value.int _ _) rfl) ?_
      refine JL.does trivial (EX.buildSlice1 H elI rfl rfl) ?_
      rintro _ w ⟨bz, rfl, H⟩
      refine JL.does trivial (EX.append (ys := [.int .i64 a]) (L' := fun s' => [(bz, cel [.int .i64 a] 3)] :: s' :: F) H elI rfl rfl (i := 1) rfl ho (SlAt.here rfl) rfl (intsV_cell [a]) (by decide) (by omega) (by omega) (fun _ => rfl)) ?_
      rintro _ w ⟨p3, c3, s3, rfl, ho3, H⟩
      refine JL.go trivial (RX.assignv (v := Value.slice _ _ _) rfl) ?_
      refine JL.nil ?_
      refine J.seq ?_
      refine J.region ?_
      refine JL.go trivial (RX.movev (v := Value.slice _ _ _) rfl) ?_
      refine JL.go trivial (RX.assignv (v := Value.slice _ _ _) rfl) ?_
      refine JL.nil ?_
      refine J.ret1 (v := Value.slice _ _ _) Tryz.func70 rfl rfl ?_
      rw [facL, if_pos h1]
      exact ⟨_, rfl, p3, c3, s3, by rw [List.length_append]; rfl, by rw [List.length_append, intsV_app]; exact ho3, H.drop⟩
    · skip
      refine J.skip ?_
      refine J.seq ?_
      refine J.region ?_
      refine JL.go trivial (RX.movev (v := Value.slice _ _ _) rfl) ?_
      refine JL.go trivial (RX.assignv (v := Value.slice _ _ _) rfl) ?_
      refine JL.nil ?_
      refine J.ret1 (v := Value.slice _ _ _) Tryz.func70 rfl rfl ?_
      rw [facL, if_neg h1]
      exact ⟨_, rfl, pp, c, sl, rfl, ho, H⟩
theorem less_b {w0 w : World} {F : List Seg} (H : Hp w0 w F) {a b m : Nat} (ha : a < m) (hb : b < m) (hm : m < 4294967296) : Ret Tryz.prog 53 [.int .u64 ((a : Nat) : Int), .int .u64 ((b : Nat) : Int), .int .u64 ((m : Nat) : Int)] w fun v w' => v = .int .u64 ((lessN m a b : Nat) : Int) ∧ Hp w0 w' F := by
  refine Calls.of_J (n := 18) Tryz.func53 rfl rfl rfl ?_
  refine J.seq ?_
  refine J.region ?_
  refine JL.go trivial (RX.assign) ?_
  refine JL.nil ?_
  refine J.seq ?_
  refine J.seq ?_
  refine J.region ?_
  refine JL.go trivial (RX.movev (v := Value.int _ _) rfl) ?_
  refine JL.go trivial (RX.movev (v := Value.int _ _) rfl) ?_
  refine JL.go trivial (RX.ge rfl rfl) ?_
  refine JL.nil ?_
  refine J.cond_d rfl (fun hge => ?_) (fun hge => ?_)
  · skip
    refine J.seq ?_
    refine J.region ?_
    refine JL.go trivial (RX.movev (v := Value.int _ _) rfl) ?_
    refine JL.go trivial (RX.movev (v := Value.int _ _) rfl) ?_
    refine JL.go trivial (RX.sub rfl rfl (wn (n := a - b) (by omega) (by omega))) ?_
    refine JL.go trivial (RX.assignv (v := Value.int _ _) rfl) ?_
    refine JL.nil ?_
    refine J.ret1 (v := Value.int _ _) Tryz.func53 rfl rfl ?_
    exact ⟨_, rfl, by rw [lessN, if_pos (by omega)], H⟩
  · skip
    refine J.skip ?_
    refine J.seq ?_
    refine J.region ?_
    refine JL.go trivial (RX.movev (v := Value.int _ _) rfl) ?_
    refine JL.go trivial (RX.movev (v := Value.int _ _) rfl) ?_
    refine JL.go trivial (RX.movev (v := Value.int _ _) rfl) ?_
    refine JL.go trivial (RX.sub rfl rfl (wn (n := b - a) (by omega) (by omega))) ?_
    refine JL.go trivial (RX.sub rfl rfl (wn (n := m - (b - a)) (by omega) (by omega))) ?_
    refine JL.go trivial (RX.assignv (v := Value.int _ _) rfl) ?_
    refine JL.nil ?_
    refine J.ret1 (v := Value.int _ _) Tryz.func53 rfl rfl ?_
    exact ⟨_, rfl, by rw [lessN, if_neg (by omega)], H⟩
theorem Inverse_b {w0 w : World} {F : List Seg} (H : Hp w0 w F) {n m X : Nat} (hn : n < 18446744073709551616) (hm : 1 < m) (hm2 : m < 4294967296) (he : euF m 64 m (n % m) 0 1 = some (1, X)) : Ret Tryz.prog 33 [.int .u64 ((n : Nat) : Int), .int .u64 ((m : Nat) : Int)] w fun v w' => v = .tuple #[.int .u64 ((X % m : Nat) : Int), .nilIface] ∧ Hp w0 w' F := by
  refine Calls.of_J (n := 43) Tryz.func33 rfl rfl rfl ?_
  refine J.seq ?_
  refine J.region ?_
  refine JL.go trivial (RX.assign) ?_
  refine JL.go trivial (RX.assign) ?_
  refine JL.nil ?_
  refine J.seq ?_
  refine J.seq ?_
  refine J.region ?_
  refine JL.go trivial (RX.movev (v := Value.int _ _) rfl) ?_
  refine JL.go trivial (RX.eq rfl rfl) ?_
  refine JL.nil ?_
  refine J.cond_f rfl (decide_eq_false (by omega)) ?_
  refine J.skip ?_
  refine J.seq ?_
  have hnm := Nat.mod_lt n (show 0 < m by omega)
  refine J.quietH H hmix (by kernel_rfl) ?_
  refine JQ.go trivial (fun w H => RX.movev (v := Value.int _ _) rfl) ?_
  refine JQ.go trivial (fun w H => RX.movev (v := Value.int _ _) rfl) ?_
  refine JQ.go trivial (fun w H => RX.movev (v := Value.int _ _) rfl) ?_
  refine JQ.go trivial (fun w H => RX.rem rfl rfl (by omega) rem_nat) ?_
  refine JQ.go trivial (fun w H => RX.assignv (v := Value.int _ _) rfl) ?_
  refine JQ.go trivial (fun w H => RX.assignv (v := Value.int _ _) rfl) ?_
  refine JQ.nil fun w H => ?_
  refine J.seq ?_
  refine J.quietH H hmix (by kernel_rfl) ?_
  refine JQ.go trivial (fun w H => RX.movev (v := Value.int _ _) rfl) ?_
  refine JQ.go trivial (fun w H => RX.rem rfl rfl (by omega) (r := ((1 : Nat) : Int)) (by rw [show (1 : Int) = ((1 : Nat) : Int) from rfl, rem_nat, Nat.mod_eq_of_lt hm])) ?_
  refine JQ.go trivial (fun w H => RX.assign) ?_
  refine JQ.go trivial (fun w H => RX.assignv (v := Value.int _ _) rfl) ?_
  refine JQ.nil fun w H => ?_
  refine J.seq ?_
  refine J.block ?_
  refine J.loop (ι := Nat × Nat × Nat × Nat × Nat) (S := fun z => [(6, .int .u64 ((z.2.1 : Nat) : Int)), (7, .int .u64 ((z.2.2.1 : Nat) : Int)), (8, .int .u64 ((z.2.2.2.1 : Nat) : Int)), (9, .int .u64 ((z.2.2.2.2 : Nat) : Int))]) (Φ := fun z w => euF m z.1 z.2.1 z.2.2.1 z.2.2.2.1 z.2.2.2.2 = some (1, X) ∧ z.2.1 ≤ m ∧ z.2.2.1 ≤ m ∧ z.2.2.2.1 < m ∧ z.2.2.2.2 < m ∧ Hp w0 w F) (μ := fun z => z.1) (C := [(1, _)]) (64, m, n % m, 0, 1) ⟨rfl, trivial⟩ ⟨rfl, rfl, rfl, rfl, trivial⟩ ?_ ?_
  · exact ⟨he, by simp, by simp only; omega, by simp only; omega, by simp only; omega, H⟩
  clear H he
  rintro ⟨k, r, s, x, y⟩ ρ w ⟨he, hr, hs, hx, hy, H⟩ IH
  simp only at he hr hs hx hy H
  obtain ⟨k, rfl⟩ : ∃ q, k = q + 1 := by
    cases k with
    | zero => cases he
    | succ q => exact ⟨q, rfl⟩
  rw [euF] at he
  dsimp only
  refine J.seq ?_
  refine J.seq ?_
  refine J.region ?_
  refine JL.go trivial (RX.movev (v := Value.int _ _) rfl) ?_
  refine JL.go trivial (RX.ne rfl rfl) ?_
  refine JL.nil ?_
  refine J.cond_d rfl (fun hs0 => ?_) (fun hs0 => ?_)
  · skip
    have hs1 : ¬ s = 0 := by omega
    rw [if_neg hs1] at he
    have hq : r / s ≤ r := Nat.div_le_self _ _
    have hrs := Nat.mod_lt r (show 0 < s by omega)
    have hM := Nat.mod_lt (r / s * y) (show 0 < m by omega)
    have hL := lessN_lt hx hM
    refine J.skip ?_
    refine J.block ?_
    refine J.seq ?_
    refine J.region ?_
    refine JL.go trivial (RX.movev (v := Value.int _ _) rfl) ?_
    refine JL.go trivial (RX.movev (v := Value.int _ _) rfl) ?_
    refine JL.go trivial (RX.quo rfl rfl (by omega) (r := ((r / s : Nat) : Int)) (by rw [quo_nat]; exact wn rfl (by omega))) ?_
    refine JL.go trivial (RX.assignv (v := Value.int _ _) rfl) ?_
    refine JL.nil ?_
    refine J.seq ?_
    refine J.quietH H hmix (by kernel_rfl) ?_
    refine JQ.go trivial (fun w H => RX.movev (v := Value.int _ _) rfl) ?_
    refine JQ.go trivial (fun w H => RX.movev (v := Value.int _ _) rfl) ?_
    refine JQ.go trivial (fun w H => RX.movev (v := Value.int _ _) rfl) ?_
    refine JQ.go trivial (fun w H => RX.rem rfl rfl (by omega) rem_nat) ?_
    refine JQ.go trivial (fun w H => RX.assignv (v := Value.int _ _) rfl) ?_
    refine JQ.go trivial (fun w H => RX.assignv (v := Value.int _ _) rfl) ?_
    refine JQ.nil fun w H => ?_
    refine J.region ?_
    refine JL.go trivial (RX.movev (v := Value.int _ _) rfl) ?_
    refine JL.go trivial (RX.movev (v := Value.int _ _) rfl) ?_
    refine JL.go trivial (RX.movev (v := Value.int _ _) rfl) ?_
    refine JL.go trivial (RX.movev (v := Value.int _ _) rfl) ?_
    refine JL.go trivial (RX.movev (v := Value.int _ _) rfl) ?_
    refine JL.does trivial (EX.call rfl cl32 rfl ((Mul_b H (by omega) (by omega) (by omega) hm2))) ?_
    rintro _ w ⟨rfl, H⟩
    refine JL.go trivial (RX.movev (v := Value.int _ _) rfl) ?_
    refine JL.does trivial (EX.call rfl cl53 rfl ((less_b H hx hM hm2))) ?_
    rintro _ w ⟨rfl, H⟩
    refine JL.go trivial (RX.assignv (v := Value.int _ _) rfl) ?_
    refine JL.go trivial (RX.assignv (v := Value.int _ _) rfl) ?_
    refine JL.nil ?_
    refine J.inBlock ?_
    exact IH (k, s, r % s, y, lessN m x (r / s * y % m)) _ _ (by simp only; omega) ⟨rfl, trivial⟩ ⟨rfl, rfl, rfl, rfl, trivial⟩ ⟨he, by simp only; omega, by simp only; omega, hy, hL, H⟩
  · skip
    have hs1 : s = 0 := by omega
    rw [if_pos hs1] at he
    obtain ⟨rfl, rfl⟩ : r = 1 ∧ x = X := by simpa using he
    refine J.exit rfl ?_
    refine J.seq ?_
    refine J.seq ?_
    refine J.region ?_
    refine JL.go trivial (RX.movev (v := Value.int _ _) rfl) ?_
    refine JL.go trivial (RX.ne rfl rfl) ?_
    refine JL.nil ?_
    refine J.cond_f rfl (decide_eq_false (fun h => h rfl)) ?_
    refine J.skip ?_
    refine J.seq ?_
    refine J.region ?_
    refine JL.go trivial (RX.movev (v := Value.int _ _) rfl) ?_
    refine JL.go trivial (RX.movev (v := Value.int _ _) rfl) ?_
    refine JL.go trivial (RX.rem rfl rfl (by omega) rem_nat) ?_
    refine JL.go trivial (RX.assignv (v := Value.int _ _) rfl) ?_
    refine JL.go trivial (RX.assign) ?_
    refine JL.nil ?_
    refine J.ret2 (v := Value.int _ _) Tryz.func33 rfl rfl rfl ?_
    exact ⟨_, rfl, rfl, H⟩
end Go.Proofs.YtfdghjlfplhpjaaGreatDoor
