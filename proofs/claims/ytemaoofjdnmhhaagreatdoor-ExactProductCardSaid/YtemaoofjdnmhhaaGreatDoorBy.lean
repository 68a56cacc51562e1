/- The law ExactProduct: what it asks is so. -/
import Derived.Test.YtemaoofjdnmhhaaGreatDoorBz
import Derived.Test.YtemaoofjdnmhhaaGreatDoorLv
namespace Go.Proofs.YtemaoofjdnmhhaaGreatDoor
open Go Go.Eng
set_option maxRecDepth 100000
set_option linter.unusedVariables false
set_option linter.unusedSimpArgs false
theorem cl4 : callable Tryz.prog 4 = true := by kernel_rfl
theorem cl6 : callable Tryz.prog 6 = true := by kernel_rfl
theorem cl9 : callable Tryz.prog 9 = true := by kernel_rfl
namespace Nn

section
variable {P : Program} {w w0 : World} {L : List Seg} {ρ : Operand → Value} {d : Option Tmp} {x y : Operand} {ty : TypeId} {pos : String} {af : Array Edge} {g : Option (Nat × Bool)}
theorem RX.min2i {k : IntKind} {a b r : Int} {ats : Array TypeId} (hx : ρ x = .int k a) (hy : ρ y = .int k b) (hr : (if b < a then b else a) = r) :
    Runs Tryz.prog ρ ⟨d, .call { callee := .builtin .min, args := #[x, y], argTypes := ats }, ty, pos, af, g⟩ w (.int k r) := by
  subst hr
  unfold Runs
  simp [execOp, hx, hy, resolve, invoke, builtin, Builtin.min_, Builtin.min2]
theorem RX.slice_h2 {t e : TypeId} {p : Option Addr} {n cap sz : Nat} {k : IntKind} {h : Int} {r : Nat} (hx : ρ x = .slice p n cap) (hy : ρ y = .int k h) (ht : sliceOf P t = some (e, sz)) (hp : ∀ a, p = some a → a.spot = none ∨ cap = 0)
    (h0 : 0 ≤ h) (h1 : h ≤ cap) (hr : h.toNat = r) : Runs P ρ ⟨d, .slice t x none (some y) none, ty, pos, af, g⟩ w (.slice p r cap) := by
  obtain ⟨hu, he, hs⟩ := slice_elem (w := w) ht
  subst hr
  have hb : behind p cap 0 sz = p := by
    unfold behind
    cases p with
    | none => rfl
    | some a => simp
  unfold Runs
  simp [execOp, hx, hy, run_sliceAt_slice w t _ _ _ _ hu, run_slice_h w t p n cap hu k h h0 h1, he, hs, sliced_plain2 hp, hb]
end
theorem min_nat (a b : Nat) : (if ((b : Nat) : Int) < ((a : Nat) : Int) then ((b : Nat) : Int) else ((a : Nat) : Int)) = ((min a b : Nat) : Int) := by
  split <;> omega
theorem elJ2 : Elem Tryz.prog 22 2 1 8 := Elem.of (by kernel_rfl)
theorem i64s_cell2 (l : List Int) : ∀ v ∈ i64sV l, isCell v = true := by
  intro v hv
  obtain ⟨z, _, rfl⟩ := List.mem_map.1 hv
  rfl
theorem i64sV_app2 (a b : List Int) : i64sV (a ++ b) = i64sV a ++ i64sV b := by simp [i64sV]
theorem i64sV_take2 {l : List Int} {n : Nat} : i64sV (l.take n) = (i64sV l).take n := by simp [i64sV, List.map_take]
theorem slI_take {L : List Seg} {p : Option Addr} {l : List Int} {n : Nat} (h : SlAt L p (i64sV l)) : SlAt L p (i64sV (l.take n)) := by
  rw [i64sV_take2]; exact h.take
theorem i64all_take {l : List Int} {n : Nat} (h : i64all l) : i64all (l.take n) := fun x hx => h x (List.mem_of_mem_take hx)
/-- A sum in the ring of int64. -/
theorem wrap_add {x y : Int} (hx : i64in x) (hy : i64in y) : ∃ s, IntKind.i64.wrap (x + y) = s ∧ (i64in (x + y) ∧ s = x + y ∨ 9223372036854775807 < x + y ∧ s = x + y - 18446744073709551616 ∨ x + y < -9223372036854775808 ∧ s = x + y + 18446744073709551616) := by
  refine ⟨_, rfl, ?_⟩
  unfold i64in at *
  simp only [IntKind.wrap, IntKind.bits, IntKind.signed]
  simp
  split <;> omega

/-- Alike modulo p. -/
def cg (p x y : Int) : Prop := ∃ q : Int, x = y + p * q
theorem cg.refl (p x : Int) : cg p x x := ⟨0, by simp⟩
theorem cg.of_eq {p x y : Int} (h : x = y) : cg p x y := h ▸ cg.refl p x
theorem cg.trans {p x y z : Int} (h : cg p x y) (k : cg p y z) : cg p x z := by
  obtain ⟨q, rfl⟩ := h
  obtain ⟨r, rfl⟩ := k
  exact ⟨r + q, by rw [Int.mul_add]; omega⟩
theorem cg.symm {p x y : Int} (h : cg p x y) : cg p y x := by
  obtain ⟨q, rfl⟩ := h
  exact ⟨-q, by rw [Int.mul_neg]; omega⟩
theorem cg.add {p x y z w : Int} (h : cg p x y) (k : cg p z w) : cg p (x + z) (y + w) := by
  obtain ⟨q, rfl⟩ := h
  obtain ⟨r, rfl⟩ := k
  exact ⟨q + r, by rw [Int.mul_add]; omega⟩
theorem cg.mulL {p x y : Int} (c : Int) (h : cg p x y) : cg p (c * x) (c * y) := by
  obtain ⟨q, rfl⟩ := h
  exact ⟨c * q, by rw [Int.mul_add, Int.mul_left_comm]⟩
theorem cg.mul {p x y z w : Int} (h : cg p x y) (k : cg p z w) : cg p (x * z) (y * w) := by
  have h1 := k.mulL x
  have h2 := h.mulL w
  rw [Int.mul_comm w x, Int.mul_comm w y] at h2
  exact h1.trans h2
theorem cg_mod (p x : Int) : cg p (x % p) x := ⟨-(x / p), by have := Int.emod_add_mul_ediv x p; rw [Int.mul_neg]; omega⟩
theorem cg.emod {p x y : Int} (h : cg p x y) : x % p = y % p := by
  obtain ⟨q, rfl⟩ := h
  exact Int.add_mul_emod_self_left _ _ _
theorem cg_isum {p : Int} {f g : Nat → Int} : ∀ {n : Nat}, (∀ j, j < n → cg p (f j) (g j)) → cg p (isum f n) (isum g n)
  | 0, _ => cg.refl _ _
  | n + 1, h => (cg_isum fun j hj => h j (by omega)).add (h n (by omega))
/-- A whole number modulo p. -/
def mo (p : Nat) (v : Int) : Nat := (v % (p : Int)).toNat
theorem mo_cast {p : Nat} (hp : 0 < p) (v : Int) : ((mo p v : Nat) : Int) = v % (p : Int) := by
  have := Int.emod_nonneg v (show (p : Int) ≠ 0 by omega)
  unfold mo; omega
theorem mo_lt {p : Nat} (hp : 0 < p) (v : Int) : mo p v < p := by
  have := Int.emod_lt_of_pos v (show (0 : Int) < p by omega)
  have := mo_cast hp v
  omega
theorem mo_getD {p : Nat} (l : List Int) (j : Nat) : (l.map (mo p)).getD j 0 = mo p ((l[j]?).getD 0) := by
  rw [List.getD_eq_getElem?_getD, List.getElem?_map]
  cases l[j]? with
  | none => simp [mo]
  | some x => rfl
theorem sm_cg {p : Nat} (hp : 0 < p) (l : List Int) (e : Nat → Nat) : ∀ n, cg p ((sm p (l.map (mo p)) e n : Nat) : Int) (isum (fun j => (l[j]?).getD 0 * ((e j : Nat) : Int)) n)
  | 0 => cg.refl _ _
  | n + 1 => by
    rw [sm, isum, mo_getD, Int.natCast_emod, Int.natCast_add, Int.natCast_emod, Int.natCast_mul]
    refine (cg_mod _ _).trans ((sm_cg hp l e n).add ((cg_mod _ _).trans ?_))
    rw [mo_cast hp]
    exact (cg_mod _ _).mul (cg.refl _ _)
theorem accI_cg {p : Int} {n : Nat} {e : Nat → Int} {kf : Nat → Nat} {f : Nat → Int} {Z : Nat → Int} {m : Nat} (hk : ∀ j, j < m → kf j < n) : ∀ {j : Nat}, j ≤ m → isum (fun k => accI kf f Z j k * e k) n = isum (fun k => Z k * e k) n + isum (fun j => f j * e (kf j)) j
  | 0, _ => by rw [isum, Int.add_zero]; rfl
  | j + 1, h => by
    have ih := accI_cg (e := e) (f := f) (Z := Z) (p := p) hk (j := j) (by omega)
    have h1 : isum (fun k => accI kf f Z (j + 1) k * e k) n = isum (fun k => accI kf f Z j k * e k + (if k = kf j then f j * e (kf j) else 0)) n := isum_ext fun k _ => by
      simp only [accI]
      by_cases h : k = kf j
      · rw [if_pos h, if_pos h, Int.add_mul, h]
      · rw [if_neg h, if_neg h, Int.add_zero]
    rw [h1, isum_add, isum_one, if_pos (hk j (by omega)), ih, isum]
    omega
theorem accO_cg {p : Int} {n m M : Nat} {e : Nat → Int} {kf : Nat → Nat → Nat} {a b : Nat → Int} (hk : ∀ i j, i < M → j < m → kf i j < n) (he : ∀ i j, i < M → j < m → cg p (e (kf i j)) (e i * e j)) : ∀ {i : Nat}, i ≤ M → cg p (isum (fun k => accO kf (fun i j => a i * b j) m i k * e k) n) (isum (fun i => a i * e i) i * isum (fun j => b j * e j) m)
  | 0, _ => by
    rw [isum_zero fun k _ => by simp [accO]]
    exact cg.of_eq (by simp [isum])
  | i + 1, h => by
    have ih := accO_cg hk he (i := i) (a := a) (b := b) (by omega)
    have h1 := accI_cg (p := p) (e := e) (f := fun j => a i * b j) (Z := accO kf (fun i j => a i * b j) m i) (fun j hj => hk i j (by omega) hj) (Nat.le_refl m)
    refine (cg.of_eq h1).trans ?_
    rw [isum, Int.add_mul]
    refine ih.add ?_
    rw [← isum_mul]
    refine cg_isum fun j hj => ?_
    refine ((he i j (by omega) hj).mulL (a i * b j)).trans (cg.of_eq ?_)
    simp only [Int.mul_assoc, Int.mul_comm, Int.mul_left_comm]
theorem pw_add_red {p r n k i j : Nat} (hn : pw p r n = 1 % p) : pw p r (k * ((i + j) % n) % n) = pw p r (k * i % n) * pw p r (k * j % n) % p := by
  rw [Nat.mul_mod_mod, pw_red hn, pw_red hn, pw_red hn, Nat.mul_add, pw_add]
/-- The transform of a cyclic convolution is the product of the transforms. -/
theorem prod_law {p r n k : Nat} {a b c : List Int} (hp : 0 < p) (hn : pw p r n = 1 % p) (hn0 : 0 < n) (ha : a.length = n) (hb : b.length = n) (hc : c = gatL (fun i j => (i + j) % n) a b n) :
    sm p (a.map (mo p)) (fun j => pw p r (k * j % n)) n % p * (sm p (b.map (mo p)) (fun j => pw p r (k * j % n)) n % p) % p = sm p (c.map (mo p)) (fun j => pw p r (k * j % n)) n := by
  have hA := sm_cg hp a (fun j => pw p r (k * j % n)) n
  have hB := sm_cg hp b (fun j => pw p r (k * j % n)) n
  have hC := sm_cg hp c (fun j => pw p r (k * j % n)) n
  have hcl : c.length = n := by rw [hc]; simp [gatL]
  have hlt := sm_lt hp (c.map (mo p)) (fun j => pw p r (k * j % n)) n
  generalize sm p (a.map (mo p)) (fun j => pw p r (k * j % n)) n = A at hA ⊢
  generalize sm p (b.map (mo p)) (fun j => pw p r (k * j % n)) n = B at hB ⊢
  generalize sm p (c.map (mo p)) (fun j => pw p r (k * j % n)) n = C at hC hlt ⊢
  have h1 : isum (fun j => (c[j]?).getD 0 * ((pw p r (k * j % n) : Nat) : Int)) n = isum (fun m => accO (fun i j => (i + j) % n) (fun i j => (a[i]?).getD 0 * (b[j]?).getD 0) n n m * ((pw p r (k * m % n) : Nat) : Int)) n := isum_ext fun j hj => by
    congr 1
    rw [hc]
    unfold gatL
    rw [List.getElem?_map, List.getElem?_range hj, ha, hb]
    rfl
  have h2 := accO_cg (p := (p : Int)) (n := n) (m := n) (M := n) (e := fun j => ((pw p r (k * j % n) : Nat) : Int)) (kf := fun i j => (i + j) % n) (a := fun i => (a[i]?).getD 0) (b := fun j => (b[j]?).getD 0) (fun i j _ _ => Nat.mod_lt _ hn0) (fun i j _ _ => by
    rw [pw_add_red hn, Int.natCast_emod, Int.natCast_mul]
    exact cg_mod _ _) (Nat.le_refl n)
  rw [← h1] at h2
  have h3 := hC.trans (h2.trans (hA.mul hB).symm)
  have h4 := h3.emod
  rw [← Nat.mul_mod]
  have h5 : (((A * B) % p : Nat) : Int) = ((C : Nat) : Int) := by
    rw [Int.natCast_emod, Int.natCast_mul, ← h4, ← Int.natCast_emod, Nat.mod_eq_of_lt hlt]
  exact_mod_cast h5

theorem RX.min3i {w : World} {ρ : Operand → Value} {d : Option Tmp} {x y z : Operand} {ty : TypeId} {pos : String} {af : Array Edge} {g : Option (Nat × Bool)} {k : IntKind} {a b c m r : Int} {ats : Array TypeId} (hx : ρ x = .int k a) (hy : ρ y = .int k b) (hz : ρ z = .int k c) (hm : (if b < a then b else a) = m) (hr : (if c < m then c else m) = r) :
    Runs Tryz.prog ρ ⟨d, .call { callee := .builtin .min, args := #[x, y, z], argTypes := ats }, ty, pos, af, g⟩ w (.int k r) := by
  subst hm hr
  unfold Runs
  simp [execOp, hx, hy, hz, resolve, invoke, builtin, Builtin.min_, Builtin.min2]
theorem elU2 : Elem Tryz.prog 29 31 1 8 := Elem.of (by kernel_rfl)
theorem u64s_cell2 (l : List Nat) : ∀ v ∈ u64sV l, isCell v = true := by
  intro v hv
  obtain ⟨z, _, rfl⟩ := List.mem_map.1 hv
  rfl
theorem mo_tmod {p : Nat} (hp : 0 < p) (x : Int) : (x.tmod (p : Int) < 0 → x.tmod (p : Int) + (p : Int) = ((mo p x : Nat) : Int)) ∧ (¬ x.tmod (p : Int) < 0 → x.tmod (p : Int) = ((mo p x : Nat) : Int)) ∧ -(p : Int) < x.tmod (p : Int) ∧ x.tmod (p : Int) < (p : Int) := by
  have h1 := mo_cast hp x
  have h2 := mo_lt hp x
  have h3 := Int.tmod_lt_of_pos x (show (0 : Int) < p by omega)
  have h4 : -(p : Int) < x.tmod (p : Int) := by
    have := Int.lt_tmod_of_pos x (show (0 : Int) < p by omega)
    omega
  have h5 : x.tmod (p : Int) = x % (p : Int) ∨ x.tmod (p : Int) = x % (p : Int) - (p : Int) := by
    rw [Int.tmod_eq_emod]
    split
    · exact .inl (by omega)
    · exact .inr (by simp)
  omega
theorem exL_ok {xs : List Nat} {i p g : Nat} (hp : primes3[i]? = some p) (hg : gens3[i]? = some g) (h1 : 1 ≤ xs.length) (h2 : xs.length ≤ 1024) (hd : (p - 1) % xs.length = 0) : exE xs.length (i : Int) = 0 ∧ exL xs (i : Int) false = trL p g xs false := by
  have heq := exE_ok hp h1 h2
  rw [if_pos hd] at heq
  refine ⟨heq, ?_⟩
  unfold exL
  rw [if_pos heq, Int.toNat_natCast, List.getD_eq_getElem?_getD, List.getD_eq_getElem?_getD, hp, hg]; rfl
theorem trL_get {p g n k : Nat} {xs : List Nat} (hn : xs.length = n) (hk : k < n) : (trL p g xs false)[k]? = some (sm p xs (fun j => pw p (pw p g ((p - 1) / n)) (k * j % n)) n) := by
  subst hn
  unfold trL
  rw [List.getElem?_map, List.getElem?_range hk]
  rfl
theorem prod_at {p g k : Nat} {fs : List Int} (G : GoodP p g fs) {a b : List Int} (hd : (p - 1) % a.length = 0) (hb : b.length = a.length) (hk : k < a.length) : ∃ x y z, (trL p g (a.map (mo p)) false)[k]? = some x ∧ (trL p g (b.map (mo p)) false)[k]? = some y ∧ (trL p g ((cycL a b).map (mo p)) false)[k]? = some z ∧ x % p * (y % p) % p = z := by
  have hlo := G.lo
  refine ⟨_, _, _, trL_get (by simp) hk, trL_get (by simp [hb]) hk, trL_get (by simp [cycL]) hk, ?_⟩
  exact prod_law (by omega) (pw_n G hd) (by omega) rfl hb rfl
theorem mod_mul_lt {x y p : Nat} (hp : 0 < p) (hp2 : p < 4294967296) : x % p * (y % p) < 18446744073709551616 := by
  have h1 := Nat.mod_lt x hp
  have h2 := Nat.mod_lt y hp
  have := Nat.mul_le_mul (show x % p ≤ 4294967295 by omega) (show y % p ≤ 4294967295 by omega)
  omega
theorem cycE_cases {a b : List Int} (h1 : 0 < a.length) (h2 : a.length ≤ 1024) (h3 : b.length = a.length) (h : cycE a b ≠ 0) : cycE a b = 19 := by
  have := (cycE_g h1 h2 h3).1
  unfold gE at this
  split at this <;> omega
theorem err_nil3 {F : List Seg} {E : Nat → Value} {Q : Nat → Addr} (h : Errs F E Q) {n : Nat} (hn : n ≤ 19) : (isNil (errV E n) = true → n = 0) ∧ (isNil (errV E n) = false → n ≠ 0) := by
  rw [(errV_ie h hn).2]
  exact ⟨fun k => of_decide_eq_true k, fun k => of_decide_eq_false k⟩
theorem slI_take3 {L : List Seg} {p : Option Addr} {l : List Int} {n : Nat} (h : SlAt L p (i64sV l)) : SlAt L p (i64sV (l.take n)) := by
  rw [show i64sV (l.take n) = (i64sV l).take n by simp [i64sV, List.map_take]]; exact h.take

theorem Cyclic_b {w0 w : World} {F : List Seg} {E : Nat → Value} {Q : Nat → Addr} (H : Hp w0 w F) (hE : Errs F E Q) {a b : List Int} {pa pb : Option Addr} {ca cb : Nat} (ha : SlAt F pa (i64sV a)) (hb : SlAt F pb (i64sV b)) (has : i64all a) (hbs : i64all b) (h2 : a.length ≤ 1024) (h3 : b.length = a.length) : Ret Tryz.prog 5 [.slice pa a.length ca, .slice pb b.length cb] w fun v w' => ∃ q c sl, v = .tuple #[.slice q (cycV a b).length c, errV E (cycE a b)] ∧ OwnSl 2 1 q (cycV a b).length c (i64sV (cycV a b)) sl ∧ Hp w0 w' (sl :: F) := by
  by_cases h0 : a.length = 0
  · exact cyclic_e H hE ha hb has hbs h0
  · exact cyclic_g H hE ha hb has hbs (by omega) h2 h3
set_option maxHeartbeats 1600000 in
theorem modulo_b {w0 w : World} {F : List Seg} (H : Hp w0 w F) {l : List Int} {p : Nat} {pa : Option Addr} {ca : Nat} (hs : SlAt F pa (i64sV l)) (hp : 1 < p) (hp2 : p < 4294967296) (hl : l.length ≤ 1024) (ok : i64all l) : Ret Tryz.prog 9 [.slice pa l.length ca, .int .u64 ((p : Nat) : Int)] w fun v w' => ∃ q c sl, v = .slice q (l.map (mo p)).length c ∧ OwnSl 31 1 q (l.map (mo p)).length c (u64sV (l.map (mo p))) sl ∧ Hp w0 w' (sl :: F) := by
  refine Calls.of_J (n := 33) Tryz.func9 rfl rfl rfl ?_
  refine J.seq ?_
  refine J.region ?_
  refine JL.go trivial (RX.assign) ?_
  refine JL.nil ?_
  refine J.seq ?_
  refine J.region ?_
  refine JL.does trivial (EX.buildSlice0 H elU2) ?_
  rintro _ w ⟨b0, rfl, H⟩
  refine JL.go trivial (RX.assignv (v := Value.slice _ _ _) rfl) ?_
  refine JL.nil ?_
  refine J.seq ?_
  refine J.seq ?_
  refine J.region ?_
  refine JL.go trivial (RX.movev (v := Value.slice _ _ _) rfl) ?_
  refine JL.go trivial (RX.len_slice rfl (by rw [sl22]; rfl) rfl) ?_
  refine JL.go trivial (RX.move) ?_
  refine JL.nil ?_
  refine J.block ?_
  refine J.loop (ι := Nat × Option Addr × Nat × Seg) (S := fun z => [(12, .int .i64 ((z.1 : Nat) : Int)), (5, .slice z.2.1 z.1 z.2.2.1)]) (Φ := fun z w => z.1 ≤ l.length ∧ OwnSl 31 1 z.2.1 z.1 z.2.2.1 (u64sV ((l.map (mo p)).take z.1)) z.2.2.2 ∧ Hp w0 w (z.2.2.2 :: F)) (μ := fun z => l.length - z.1) (C := [(1, _), (10, _), (11, _)]) (0, some ⟨b0, 0, none⟩, 0, [(b0, cel [] 31)]) ⟨rfl, rfl, rfl, trivial⟩ ⟨rfl, rfl, trivial⟩ ?_ ?_
  · exact ⟨by simp, OwnSl.empty, H⟩
  clear H
  rintro ⟨i, q, c, sl⟩ ρ w ⟨hi, ho, H⟩ IH
  simp only at hi ho H
  dsimp only
  refine J.seq ?_
  refine J.region ?_
  refine JL.go trivial (RX.lt rfl rfl) ?_
  refine JL.nil ?_
  refine J.seq ?_
  refine J.cond_d rfl (fun hlt => ?_) (fun hlt => ?_)
  · skip
    obtain ⟨x, hx⟩ : ∃ x, l[i]? = some x := ⟨_, List.getElem?_eq_getElem (by omega)⟩
    obtain ⟨pb1, po1, rfl, hp1⟩ := hs.some (by rw [i64sV_len]; omega)
    have hmi : (l.map (mo p))[i]? = some (mo p x) := by rw [List.getElem?_map, hx]; rfl
    obtain ⟨m1, m2, m3, m4⟩ := mo_tmod (show 0 < p by omega) x
    have hml := mo_lt (show 0 < p by omega) x
    have hle9 := ho.le
    refine J.skip ?_
    refine J.seq ?_
    refine J.block ?_
    refine J.seq ?_
    refine J.region ?_
    refine JL.go trivial (RX.indexAddr rfl rfl sl22 (by omega) (by omega) (o' := po1 + i) (by omega)) ?_
    refine JL.go trivial (RX.loadS H hs.cons rfl (j := i) rfl (v := .int .i64 x) (i64sV_get hx) one2) ?_
    refine JL.go trivial (RX.assignv (v := Value.int _ _) rfl) ?_
    refine JL.nil ?_
    refine J.seq ?_
    refine J.region ?_
    refine JL.go trivial (RX.movev (v := Value.int _ _) rfl) ?_
    refine JL.go trivial (RX.movev (v := Value.int _ _) rfl) ?_
    refine JL.go trivial (RX.conv rfl (by rw [ki31]; rfl) ki2 (wi (n := p) rfl (by omega))) ?_
    refine JL.go trivial (RX.rem rfl rfl (by omega) (r := x.tmod ((p : Nat) : Int)) rfl) ?_
    refine JL.go trivial (RX.assignv (v := Value.int _ _) rfl) ?_
    refine JL.nil ?_
    refine J.seq ?_
    refine J.seq ?_
    refine J.region ?_
    refine JL.go trivial (RX.movev (v := Value.int _ _) rfl) ?_
    refine JL.go trivial (RX.lt rfl rfl) ?_
    refine JL.nil ?_
    refine J.cond_d rfl (fun hneg => ?_) (fun hneg => ?_)
    · skip
      refine J.region ?_
      refine JL.go trivial (RX.movev (v := Value.int _ _) rfl) ?_
      refine JL.go trivial (RX.movev (v := Value.int _ _) rfl) ?_
      refine JL.go trivial (RX.conv rfl (by rw [ki31]; rfl) ki2 (wi (n := p) rfl (by omega))) ?_
      refine JL.go trivial (RX.add rfl rfl (w_i64 (r := ((mo p x : Nat) : Int)) (m1 hneg) (by omega) (by omega))) ?_
      refine JL.go trivial (RX.assignv (v := Value.int _ _) rfl) ?_
      refine JL.nil ?_
      refine J.region ?_
      refine JL.go trivial (RX.movev (v := Value.slice _ _ _) rfl) ?_
      refine JL.go trivial (RX.movev (v := Value.int _ _) rfl) ?_
      refine JL.go trivial (RX.conv rfl (by rw [ki2]; rfl) ki31 (w_u64 (r := ((mo p x : Nat) : Int)) rfl (by omega) (by omega))) ?_
      refine JL.does trivial (EX.buildSlice1 (v := .int .u64 ((mo p x : Nat) : Int)) H elU2 rfl rfl) ?_
      rintro _ w ⟨bz, rfl, H⟩
      refine JL.does trivial (EX.append (ys := u64sV [mo p x]) (L' := fun s' => [(bz, cel (u64sV [mo p x]) 31)] :: s' :: F) H elU2 rfl rfl (i := 1) rfl ho (SlAt.here rfl) rfl (u64s_cell2 _) (by decide) (by omega) (by omega) (fun _ => rfl)) ?_
      rintro _ w ⟨q2, c2, s2, rfl, ho2, H⟩
      replace H := H.drop
      rw [← u64sV_app, ← take_succ_get hmi] at ho2
      refine JL.go trivial (RX.assignv (v := Value.slice _ _ _) rfl) ?_
      refine JL.nil ?_
      refine J.inBlock ?_
      refine J.region ?_
      refine JL.go trivial (RX.add rfl rfl (wi (n := i + 1) (by omega) (by omega))) ?_
      refine JL.go trivial (RX.movev (v := Value.int _ _) rfl) ?_
      refine JL.nil ?_
      exact IH (i + 1, q2, c2, s2) _ _ (by simp only; omega) ⟨rfl, rfl, rfl, trivial⟩ ⟨rfl, rfl, trivial⟩ ⟨by simp only; omega, ho2, H⟩
    · skip
      refine J.skip ?_
      refine J.region ?_
      refine JL.go trivial (RX.movev (v := Value.slice _ _ _) rfl) ?_
      refine JL.go trivial (RX.movev (v := Value.int _ _) rfl) ?_
      refine JL.go trivial (RX.conv rfl (by rw [ki2]; rfl) ki31 (w_u64 (r := ((mo p x : Nat) : Int)) (m2 hneg) (by omega) (by omega))) ?_
      refine JL.does trivial (EX.buildSlice1 (v := .int .u64 ((mo p x : Nat) : Int)) H elU2 rfl rfl) ?_
      rintro _ w ⟨bz, rfl, H⟩
      refine JL.does trivial (EX.append (ys := u64sV [mo p x]) (L' := fun s' => [(bz, cel (u64sV [mo p x]) 31)] :: s' :: F) H elU2 rfl rfl (i := 1) rfl ho (SlAt.here rfl) rfl (u64s_cell2 _) (by decide) (by omega) (by omega) (fun _ => rfl)) ?_
      rintro _ w ⟨q2, c2, s2, rfl, ho2, H⟩
      replace H := H.drop
      rw [← u64sV_app, ← take_succ_get hmi] at ho2
      refine JL.go trivial (RX.assignv (v := Value.slice _ _ _) rfl) ?_
      refine JL.nil ?_
      refine J.inBlock ?_
      refine J.region ?_
      refine JL.go trivial (RX.add rfl rfl (wi (n := i + 1) (by omega) (by omega))) ?_
      refine JL.go trivial (RX.movev (v := Value.int _ _) rfl) ?_
      refine JL.nil ?_
      exact IH (i + 1, q2, c2, s2) _ _ (by simp only; omega) ⟨rfl, rfl, rfl, trivial⟩ ⟨rfl, rfl, trivial⟩ ⟨by simp only; omega, ho2, H⟩
  · skip
    obtain rfl : i = l.length := by omega
    have hml : (l.map (mo p)).length = l.length := List.length_map ..
    rw [List.take_of_length_le (by omega)] at ho
    rw [hml]
    refine J.exit rfl ?_
    refine J.seq ?_
    refine J.region ?_
    refine JL.go trivial (RX.movev (v := Value.slice _ _ _) rfl) ?_
    refine JL.go trivial (RX.assignv (v := Value.slice _ _ _) rfl) ?_
    refine JL.nil ?_
    refine J.ret1 (v := Value.slice _ _ _) Tryz.func9 rfl rfl ?_
    exact ⟨_, rfl, q, c, sl, rfl, ho, H⟩
set_option maxHeartbeats 1600000 in
theorem ExactProduct_b {w0 w : World} {F : List Seg} {E : Nat → Value} {Q : Nat → Addr} (H : Hp w0 w F) (hE : Errs F E Q) {xs : List Int} {px : Option Addr} {cx : Nat} (hsx : SlAt F px (i64sV xs)) {ys : List Int} {py : Option Addr} {cy : Nat} (hsy : SlAt F py (i64sV ys)) (okx : i64all xs) (oky : i64all ys) (hlx : xs.length ≤ 9223372036854775807) (hly : ys.length ≤ 9223372036854775807) (hcx : xs.length ≤ cx ∧ ∀ a, px = some a → a.spot = none ∨ cx = 0) (hcy : ys.length ≤ cy ∧ ∀ a, py = some a → a.spot = none ∨ cy = 0) : Ret Tryz.prog 3 [.slice px xs.length cx, .slice py ys.length cy] w fun v w' => v = .bool true ∧ Hp w0 w' F := by
  refine Calls.of_J (n := 146) Tryz.func3 rfl rfl rfl ?_
  refine J.seq ?_
  refine J.region ?_
  refine JL.go trivial (RX.assign) ?_
  refine JL.nil ?_
  refine J.seq ?_
  refine J.seq ?_
  refine J.region ?_
  refine JL.does trivial (EX.call rfl cl4 rfl ((lives_b H hE))) ?_
  rintro _ w ⟨rfl, H⟩
  refine JL.go trivial (RX.not rfl) ?_
  refine JL.nil ?_
  refine J.cond_f rfl rfl ?_
  refine J.skip ?_
  refine J.seq ?_
  obtain ⟨n, hn⟩ : ∃ n, n = min (min xs.length ys.length) 128 := ⟨_, rfl⟩
  obtain ⟨A, hAe⟩ : ∃ A, A = xs.take n := ⟨_, rfl⟩
  obtain ⟨D, hDe⟩ : ∃ D, D = ys.take n := ⟨_, rfl⟩
  have hAl : A.length = n := by rw [hAe, List.length_take]; omega
  have hDl : D.length = A.length := by rw [hAl, hDe, List.length_take]; omega
  have hsA : SlAt F px (i64sV A) := by rw [hAe]; exact slI_take3 hsx
  have hsD : SlAt F py (i64sV D) := by rw [hDe]; exact slI_take3 hsy
  have okA : i64all A := by rw [hAe]; exact fun x hx => okx x (List.mem_of_mem_take hx)
  have okD : i64all D := by rw [hDe]; exact fun x hx => oky x (List.mem_of_mem_take hx)
  clear hAe hDe
  have hn2 : n ≤ 128 := by omega
  have hcx1 := hcx.1
  have hcy1 := hcy.1
  subst hAl
  have hcv := cycV_le A D
  refine J.region ?_
  refine JL.go trivial (RX.movev (v := Value.slice _ _ _) rfl) ?_
  refine JL.go trivial (RX.len_slice rfl (by rw [sl22]; rfl) rfl) ?_
  refine JL.go trivial (RX.movev (v := Value.slice _ _ _) rfl) ?_
  refine JL.go trivial (RX.len_slice rfl (by rw [sl22]; rfl) rfl) ?_
  refine JL.go trivial (RX.min3i rfl rfl rfl (m := ((min xs.length ys.length : Nat) : Int)) (by split <;> omega) (r := ((A.length : Nat) : Int)) (by split <;> omega)) ?_
  refine JL.go trivial (RX.assignv (v := Value.int _ _) rfl) ?_
  refine JL.nil ?_
  refine J.seq ?_
  refine J.quietH H hmix (by kernel_rfl) ?_
  refine JQ.go trivial (fun w H => RX.movev (v := Value.slice _ _ _) rfl) ?_
  refine JQ.go trivial (fun w H => RX.movev (v := Value.int _ _) rfl) ?_
  refine JQ.go trivial (fun w H => RX.slice_h2 rfl rfl sl22 hcx.2 (by omega) (by omega) (r := A.length) (by omega)) ?_
  refine JQ.go trivial (fun w H => RX.movev (v := Value.slice _ _ _) rfl) ?_
  refine JQ.go trivial (fun w H => RX.movev (v := Value.int _ _) rfl) ?_
  refine JQ.go trivial (fun w H => RX.slice_h2 rfl rfl sl22 hcy.2 (by omega) (by omega) (r := D.length) (by omega)) ?_
  refine JQ.go trivial (fun w H => RX.assignv (v := Value.slice _ _ _) rfl) ?_
  refine JQ.go trivial (fun w H => RX.assignv (v := Value.slice _ _ _) rfl) ?_
  refine JQ.nil fun w H => ?_
  refine J.seq ?_
  refine J.region ?_
  refine JL.go trivial (RX.movev (v := Value.slice _ _ _) rfl) ?_
  refine JL.go trivial (RX.movev (v := Value.slice _ _ _) rfl) ?_
  refine JL.does trivial (EX.call rfl cl5 rfl ((Cyclic_b (a := A) (b := D) H hE hsA hsD okA okD (by omega) hDl))) ?_
  rintro _ w ⟨q1, c1, s1, rfl, ho1, H⟩
  refine JL.go trivial (RX.movev (v := .tuple _) rfl) ?_
  refine JL.go trivial (RX.extract rfl rfl) ?_
  refine JL.go trivial (RX.extract (v := errV E (cycE A D)) rfl rfl) ?_
  refine JL.go trivial (RX.assignv (v := Value.slice _ _ _) rfl) ?_
  refine JL.go trivial (RX.assignv (v := errV E (cycE A D)) rfl) ?_
  refine JL.nil ?_
  refine J.seq ?_
  refine J.seq ?_
  refine J.region ?_
  refine JL.go trivial (RX.movev (v := errV E (cycE A D)) rfl) ?_
  refine JL.go trivial (RX.ifnil_neq (v := errV E (cycE A D)) rfl rfl (errV_ie hE (cycE_le A D)).1 if25) ?_
  refine JL.nil ?_
  refine J.cond rfl (fun h1 => ?_) (fun h1 => ?_)
  · skip
    have k1 := (err_nil3 hE (cycE_le A D)).2 (by simpa using h1)
    refine J.seq ?_
    refine J.region ?_
    refine JL.go trivial (RX.movev (v := Value.int _ _) rfl) ?_
    refine JL.go trivial (RX.eq rfl rfl) ?_
    refine JL.go trivial (RX.movev (v := Value.bool _) rfl) ?_
    refine JL.splitS 40 rfl (fun h2 => ?_) (fun h2 => ?_)
    · skip
      first | have h2p := of_decide_eq_true h2 | skip
      have e7 : cycE A D = 7 := if_pos (.inl (by omega))
      refine JL.go ⟨_, rfl, h2⟩ (RX.movev (v := errV E (cycE A D)) rfl) ?_
      refine JL.does ⟨_, rfl, h2⟩ (EX.call rfl cl6 rfl ((Num_b H (hE.cons) (cycE_le A D)))) ?_
      rintro _ w ⟨rfl, H⟩
      refine JL.go ⟨_, rfl, h2⟩ (RX.eq rfl rfl) ?_
      refine JL.go trivial (RX.pick_t rfl h2) ?_
      refine JL.go trivial (RX.movev (v := Value.bool _) rfl) ?_
      refine JL.splitS 45 rfl (fun h3 => ?_) (fun h3 => ?_)
      · skip
        first | have h3p := of_decide_eq_true h3 | skip
        refine JL.no ⟨_, rfl, gno h3⟩ ?_
        refine JL.no ⟨_, rfl, gno h3⟩ ?_
        refine JL.no ⟨_, rfl, gno h3⟩ ?_
        refine JL.go trivial (RX.pick_t rfl h3) ?_
        refine JL.go trivial (RX.assignv (v := Value.bool _) rfl) ?_
        refine JL.nil ?_
        refine J.ret1 (v := Value.bool _) Tryz.func3 rfl rfl ?_
        exact ⟨_, rfl, rfl, H.drop⟩
      · skip
        first | have h3p := of_decide_eq_false h3 | skip
        exfalso
        have := of_decide_eq_false h3
        rw [e7] at this
        exact this rfl
    · skip
      first | have h2p := of_decide_eq_false h2 | skip
      have e19 := cycE_cases (a := A) (b := D) (by omega) (by omega) hDl k1
      refine JL.no ⟨_, rfl, gno h2⟩ ?_
      refine JL.no ⟨_, rfl, gno h2⟩ ?_
      refine JL.no ⟨_, rfl, gno h2⟩ ?_
      refine JL.go trivial (RX.pick_f rfl h2) ?_
      refine JL.go trivial (RX.movev (v := Value.bool _) rfl) ?_
      refine JL.go ⟨_, rfl, rfl⟩ (RX.movev (v := errV E (cycE A D)) rfl) ?_
      refine JL.does ⟨_, rfl, rfl⟩ (EX.call rfl cl6 rfl ((Num_b H (hE.cons) (cycE_le A D)))) ?_
      rintro _ w ⟨rfl, H⟩
      refine JL.go ⟨_, rfl, rfl⟩ (RX.eq rfl rfl) ?_
      refine JL.go trivial (RX.pick_f rfl rfl) ?_
      refine JL.go trivial (RX.assignv (v := Value.bool _) rfl) ?_
      refine JL.nil ?_
      refine J.ret1 (v := Value.bool _) Tryz.func3 rfl rfl ?_
      refine ⟨_, rfl, ?_, H.drop⟩
      rw [decide_eq_true (by rw [e19]; rfl)]
  · skip
    have k1 := (err_nil3 hE (cycE_le A D)).1 (by simpa using h1)
    obtain ⟨ic1, el1⟩ := cycE_zero k1
    have hA1 : 0 < A.length := by
      by_cases h0 : A.length = 0
      · have e7 : cycE A D = 7 := if_pos (.inl h0)
        omega
      · omega
    have okV : i64all (cycV A D) := by rw [el1]; exact ic1
    have hlV : (cycV A D).length = A.length := by rw [el1, cycL_len]
    refine J.skip ?_
    refine J.seq ?_
    refine J.seq ?_
    refine J.region ?_
    refine JL.does trivial (EX.call rfl cl7 rfl ((Primes_b H))) ?_
    rintro _ w ⟨bp, rfl, H⟩
    refine JL.go trivial (RX.len_slice rfl (by rw [sl29]; rfl) rfl) ?_
    refine JL.go trivial (RX.move) ?_
    refine JL.nil ?_
    refine J.block ?_
    refine J.loop (ι := Nat) (S := fun i => [(52, .int .i64 ((i : Nat) : Int))]) (Φ := fun i w => i ≤ 3 ∧ Hp w0 w ([(bp, cel (u64sV primes3) 31)] :: s1 :: F)) (μ := fun i => 3 - i) (C := [(0, _), (1, _), (5, _), (6, _), (50, _), (51, _)]) 0 ⟨rfl, rfl, rfl, rfl, rfl, rfl, trivial⟩ ⟨rfl, trivial⟩ ?_ ?_
    · exact ⟨by omega, H⟩
    clear H
    rintro i ρ w ⟨hi, H⟩ IH
    refine J.seq ?_
    refine J.region ?_
    refine JL.go trivial (RX.lt rfl rfl) ?_
    refine JL.nil ?_
    refine J.seq ?_
    refine J.cond_d rfl (fun hlt => ?_) (fun hlt => ?_)
    · skip
      obtain ⟨p, hpi⟩ : ∃ p, primes3[i]? = some p := ⟨_, List.getElem?_eq_getElem (show i < 3 by omega)⟩
      obtain ⟨g, fs, hgi, G⟩ := good3s hpi
      have hlo := G.lo
      have hp2 := G.hi
      refine J.skip ?_
      refine J.seq ?_
      refine J.block ?_
      refine J.seq ?_
      refine J.region ?_
      refine JL.go trivial (RX.movev (v := Value.int _ _) rfl) ?_
      refine JL.go trivial (RX.indexAddr rfl rfl sl29 (by omega) (by omega) (o' := i) (by omega)) ?_
      refine JL.go trivial (RX.load H rfl (i := 0) (v := .int .u64 ((p : Nat) : Int)) rfl (u64sV_get hpi) one31) ?_
      refine JL.go trivial (RX.assignv (v := Value.int _ _) rfl) ?_
      refine JL.go trivial (RX.assignv (v := Value.int _ _) rfl) ?_
      refine JL.nil ?_
      refine J.seq ?_
      refine J.seq ?_
      refine J.region ?_
      refine JL.go trivial (RX.movev (v := Value.int _ _) rfl) ?_
      refine JL.go trivial (RX.eq rfl rfl) ?_
      refine JL.go trivial (RX.movev (v := Value.bool _) rfl) ?_
      refine JL.go ⟨_, rfl, (decide_eq_false (by omega))⟩ (RX.movev (v := Value.int _ _) rfl) ?_
      refine JL.go ⟨_, rfl, (decide_eq_false (by omega))⟩ (RX.sub rfl rfl (wn (n := p - 1) (by omega) (by omega))) ?_
      refine JL.go ⟨_, rfl, (decide_eq_false (by omega))⟩ (RX.movev (v := Value.int _ _) rfl) ?_
      refine JL.go ⟨_, rfl, (decide_eq_false (by omega))⟩ (RX.conv rfl (by rw [ki3]; rfl) ki31 (wn (n := A.length) rfl (by omega))) ?_
      refine JL.go ⟨_, rfl, (decide_eq_false (by omega))⟩ (RX.rem rfl rfl (by omega) rem_nat) ?_
      refine JL.go ⟨_, rfl, (decide_eq_false (by omega))⟩ (RX.ne rfl rfl) ?_
      refine JL.go trivial (RX.pick_f rfl (decide_eq_false (by omega))) ?_
      refine JL.nil ?_
      refine J.cond_d rfl (fun h66 => ?_) (fun h66 => ?_)
      · skip
        refine J.exit rfl ?_
        refine J.region ?_
        refine JL.go trivial (RX.add rfl rfl (wi (n := i + 1) (by omega) (by omega))) ?_
        refine JL.go trivial (RX.movev (v := Value.int _ _) rfl) ?_
        refine JL.nil ?_
        exact IH (i + 1) _ _ (by omega) ⟨rfl, rfl, rfl, rfl, rfl, rfl, trivial⟩ ⟨rfl, trivial⟩ ⟨by omega, H⟩
      · skip
        have hd : (p - 1) % A.length = 0 := by omega
        obtain ⟨e2, l2⟩ := exL_ok (xs := A.map (mo p)) hpi hgi (by simp; omega) (by simp; omega) (by rw [List.length_map]; exact hd)
        obtain ⟨e4, l4⟩ := exL_ok (xs := D.map (mo p)) hpi hgi (by simp; omega) (by simp; omega) (by rw [List.length_map, hDl]; exact hd)
        obtain ⟨e6, l6⟩ := exL_ok (xs := (cycV A D).map (mo p)) hpi hgi (by simp; omega) (by simp; omega) (by rw [List.length_map, hlV]; exact hd)
        have ok2 := okA
        have ok4 := okD
        have ok6 := okV
        refine J.skip ?_
        refine J.seq ?_
        refine J.region ?_
        refine JL.go trivial (RX.movev (v := Value.slice _ _ _) rfl) ?_
        refine JL.go trivial (RX.movev (v := Value.int _ _) rfl) ?_
        refine JL.does trivial (EX.call rfl cl9 rfl ((modulo_b (l := A) (p := p) H (SlAt.cons (SlAt.cons hsA)) (by omega) hp2 (by omega) ok2))) ?_
        rintro _ w ⟨q2, c2, s2, rfl, ho2, H⟩
        refine JL.go trivial (RX.movev (v := Value.int _ _) rfl) ?_
        refine JL.does trivial (EX.call rfl cl8 rfl ((by have h := Forward_b (xs := ((A).map (mo p))) (prime := ((i : Nat) : Int)) (c := c2) H (hE.cons.cons.cons) ho2.slAt (fun x hx => by obtain ⟨z, _, rfl⟩ := List.mem_map.1 hx; have := mo_lt (show 0 < p by omega) z; omega); rw [e2, l2] at h; exact h))) ?_
        rintro _ w ⟨q3, c3, s3, rfl, ho3, H⟩
        refine JL.go trivial (RX.movev (v := .tuple _) rfl) ?_
        refine JL.go trivial (RX.extract rfl rfl) ?_
        refine JL.go trivial (RX.extract (v := .nilIface) rfl rfl) ?_
        refine JL.go trivial (RX.assignv (v := Value.slice _ _ _) rfl) ?_
        refine JL.go trivial (RX.assignv (v := .nilIface) rfl) ?_
        refine JL.nil ?_
        refine J.seq ?_
        refine J.region ?_
        refine JL.go trivial (RX.movev (v := Value.slice _ _ _) rfl) ?_
        refine JL.go trivial (RX.movev (v := Value.int _ _) rfl) ?_
        refine JL.does trivial (EX.call rfl cl9 rfl ((modulo_b (l := D) (p := p) H (SlAt.cons (SlAt.cons (SlAt.cons (SlAt.cons hsD)))) (by omega) hp2 (by omega) ok4))) ?_
        rintro _ w ⟨q4, c4, s4, rfl, ho4, H⟩
        refine JL.go trivial (RX.movev (v := Value.int _ _) rfl) ?_
        refine JL.does trivial (EX.call rfl cl8 rfl ((by have h := Forward_b (xs := ((D).map (mo p))) (prime := ((i : Nat) : Int)) (c := c4) H (hE.cons.cons.cons.cons.cons) ho4.slAt (fun x hx => by obtain ⟨z, _, rfl⟩ := List.mem_map.1 hx; have := mo_lt (show 0 < p by omega) z; omega); rw [e4, l4] at h; exact h))) ?_
        rintro _ w ⟨q5, c5, s5, rfl, ho5, H⟩
        refine JL.go trivial (RX.movev (v := .tuple _) rfl) ?_
        refine JL.go trivial (RX.extract rfl rfl) ?_
        refine JL.go trivial (RX.extract (v := .nilIface) rfl rfl) ?_
        refine JL.go trivial (RX.assignv (v := Value.slice _ _ _) rfl) ?_
        refine JL.go trivial (RX.assignv (v := .nilIface) rfl) ?_
        refine JL.nil ?_
        refine J.seq ?_
        refine J.region ?_
        refine JL.go trivial (RX.movev (v := Value.slice _ _ _) rfl) ?_
        refine JL.go trivial (RX.movev (v := Value.int _ _) rfl) ?_
        refine JL.does trivial (EX.call rfl cl9 rfl ((modulo_b (l := cycV A D) (p := p) H (SlAt.cons (SlAt.cons (SlAt.cons (SlAt.cons (SlAt.cons ho1.slAt))))) (by omega) hp2 (by omega) ok6))) ?_
        rintro _ w ⟨q6, c6, s6, rfl, ho6, H⟩
        refine JL.go trivial (RX.movev (v := Value.int _ _) rfl) ?_
        refine JL.does trivial (EX.call rfl cl8 rfl ((by have h := Forward_b (xs := ((cycV A D).map (mo p))) (prime := ((i : Nat) : Int)) (c := c6) H (hE.cons.cons.cons.cons.cons.cons.cons) ho6.slAt (fun x hx => by obtain ⟨z, _, rfl⟩ := List.mem_map.1 hx; have := mo_lt (show 0 < p by omega) z; omega); rw [e6, l6] at h; exact h))) ?_
        rintro _ w ⟨q7, c7, s7, rfl, ho7, H⟩
        refine JL.go trivial (RX.movev (v := .tuple _) rfl) ?_
        refine JL.go trivial (RX.extract rfl rfl) ?_
        refine JL.go trivial (RX.extract (v := .nilIface) rfl rfl) ?_
        refine JL.go trivial (RX.assignv (v := Value.slice _ _ _) rfl) ?_
        refine JL.go trivial (RX.assignv (v := .nilIface) rfl) ?_
        refine JL.nil ?_
        refine J.seq ?_
        refine J.seq ?_
        have n3 : (trL p g ((A).map (mo p)) false).length = A.length := by simp [trL]
        have n5 : (trL p g ((D).map (mo p)) false).length = A.length := by simp [trL, hDl]
        have n7 : (trL p g ((cycV A D).map (mo p)) false).length = A.length := by simp [trL, hlV]
        refine J.region ?_
        refine JL.go trivial (RX.movev (v := .nilIface) rfl) ?_
        refine JL.go trivial (RX.ifnil_neq (v := .nilIface) rfl rfl rfl if25) ?_
        refine JL.go trivial (RX.movev (v := Value.bool _) rfl) ?_
        refine JL.go ⟨_, rfl, rfl⟩ (RX.movev (v := .nilIface) rfl) ?_
        refine JL.go ⟨_, rfl, rfl⟩ (RX.ifnil_neq (v := .nilIface) rfl rfl rfl if25) ?_
        refine JL.go trivial (RX.pick_f rfl rfl) ?_
        refine JL.go trivial (RX.movev (v := Value.bool _) rfl) ?_
        refine JL.go ⟨_, rfl, rfl⟩ (RX.movev (v := .nilIface) rfl) ?_
        refine JL.go ⟨_, rfl, rfl⟩ (RX.ifnil_neq (v := .nilIface) rfl rfl rfl if25) ?_
        refine JL.go trivial (RX.pick_f rfl rfl) ?_
        refine JL.go trivial (RX.movev (v := Value.bool _) rfl) ?_
        refine JL.go ⟨_, rfl, rfl⟩ (RX.movev (v := Value.slice _ _ _) rfl) ?_
        refine JL.go ⟨_, rfl, rfl⟩ (RX.len_slice rfl (by rw [sl29]; rfl) rfl) ?_
        refine JL.go ⟨_, rfl, rfl⟩ (RX.movev (v := Value.int _ _) rfl) ?_
        refine JL.go ⟨_, rfl, rfl⟩ (RX.ne rfl rfl) ?_
        refine JL.go trivial (RX.pick_f rfl rfl) ?_
        refine JL.go trivial (RX.movev (v := Value.bool _) rfl) ?_
        refine JL.go ⟨_, rfl, (decide_eq_false (fun h => h (by omega)))⟩ (RX.movev (v := Value.slice _ _ _) rfl) ?_
        refine JL.go ⟨_, rfl, (decide_eq_false (fun h => h (by omega)))⟩ (RX.len_slice rfl (by rw [sl29]; rfl) rfl) ?_
        refine JL.go ⟨_, rfl, (decide_eq_false (fun h => h (by omega)))⟩ (RX.movev (v := Value.int _ _) rfl) ?_
        refine JL.go ⟨_, rfl, (decide_eq_false (fun h => h (by omega)))⟩ (RX.ne rfl rfl) ?_
        refine JL.go trivial (RX.pick_f rfl (decide_eq_false (fun h => h (by omega)))) ?_
        refine JL.go trivial (RX.movev (v := Value.bool _) rfl) ?_
        refine JL.go ⟨_, rfl, (decide_eq_false (fun h => h (by omega)))⟩ (RX.movev (v := Value.slice _ _ _) rfl) ?_
        refine JL.go ⟨_, rfl, (decide_eq_false (fun h => h (by omega)))⟩ (RX.len_slice rfl (by rw [sl29]; rfl) rfl) ?_
        refine JL.go ⟨_, rfl, (decide_eq_false (fun h => h (by omega)))⟩ (RX.movev (v := Value.int _ _) rfl) ?_
        refine JL.go ⟨_, rfl, (decide_eq_false (fun h => h (by omega)))⟩ (RX.ne rfl rfl) ?_
        refine JL.go trivial (RX.pick_f rfl (decide_eq_false (fun h => h (by omega)))) ?_
        refine JL.nil ?_
        refine J.cond_f rfl (decide_eq_false (fun h => h (by omega))) ?_
        refine J.skip ?_
        refine J.seq ?_
        have x3 := ho3
        have x5 := ho5
        have x7 := ho7
        obtain ⟨g3, m3, rfl, rfl, _⟩ := x3.ptr (by omega)
        obtain ⟨g5, m5, rfl, rfl, _⟩ := x5.ptr (by omega)
        obtain ⟨g7, m7, rfl, rfl, _⟩ := x7.ptr (by omega)
        have hc3 := ho3.le
        have hc5 := ho5.le
        have hc7 := ho7.le
        refine J.region ?_
        refine JL.go trivial (RX.movev (v := Value.slice _ _ _) rfl) ?_
        refine JL.go trivial (RX.len_slice rfl (by rw [sl29]; rfl) rfl) ?_
        refine JL.go trivial (RX.move) ?_
        refine JL.nil ?_
        refine J.block ?_
        refine J.loop (ι := Nat) (S := fun k => [(121, .int .i64 ((k : Nat) : Int))]) (Φ := fun k w => k ≤ A.length ∧ Hp w0 w ([(g7, cel m7 31)] :: s6 :: [(g5, cel m5 31)] :: s4 :: [(g3, cel m3 31)] :: s2 :: [(bp, cel (u64sV primes3) 31)] :: s1 :: F)) (μ := fun k => A.length - k) (C := [(0, _), (1, _), (5, _), (6, _), (9, _), (10, _), (12, _), (14, _), (50, _), (51, _), (52, _), (120, _)]) 0 ⟨rfl, rfl, rfl, rfl, rfl, rfl, rfl, rfl, rfl, rfl, rfl, rfl, trivial⟩ ⟨rfl, trivial⟩ ?_ ?_
        · exact ⟨by omega, H⟩
        clear H
        rintro k ρ w ⟨hk, H⟩ IH2
        refine J.seq ?_
        refine J.region ?_
        refine JL.go trivial (RX.lt rfl rfl) ?_
        refine JL.nil ?_
        refine J.seq ?_
        refine J.cond_d rfl (fun hlt2 => ?_) (fun hlt2 => ?_)
        · skip
          have hkn : k < A.length := by omega
          obtain ⟨x, y, z, hx, hy, hz, hlaw⟩ := prod_at G hd hDl hkn
          rw [← el1] at hz
          have hmul := mod_mul_lt (x := x) (y := y) (p := p) (by omega) hp2
          refine J.skip ?_
          refine J.seq ?_
          refine J.block ?_
          refine J.seq ?_
          refine J.region ?_
          refine JL.go trivial (RX.movev (v := Value.int _ _) rfl) ?_
          refine JL.go trivial (RX.assignv (v := Value.int _ _) rfl) ?_
          refine JL.nil ?_
          refine J.seq ?_
          refine J.quietH H hmix (by kernel_rfl) ?_
          refine JQ.go trivial (fun w H => RX.movev (v := Value.slice _ _ _) rfl) ?_
          refine JQ.go trivial (fun w H => RX.movev (v := Value.int _ _) rfl) ?_
          refine JQ.go trivial (fun w H => RX.indexAddr rfl rfl sl29 (by omega) (by omega) (o' := k) (by omega)) ?_
          refine JQ.go trivial (fun w H => RX.loadS H (SlAt.cons (SlAt.cons (SlAt.cons (SlAt.cons ho3.slAt)))) rfl (j := k) (by omega) (v := .int .u64 ((x : Nat) : Int)) (u64sV_get hx) one31) ?_
          refine JQ.go trivial (fun w H => RX.movev (v := Value.int _ _) rfl) ?_
          refine JQ.go trivial (fun w H => RX.rem rfl rfl (by omega) rem_nat) ?_
          refine JQ.go trivial (fun w H => RX.movev (v := Value.slice _ _ _) rfl) ?_
          refine JQ.go trivial (fun w H => RX.movev (v := Value.int _ _) rfl) ?_
          refine JQ.go trivial (fun w H => RX.indexAddr rfl rfl sl29 (by omega) (by omega) (o' := k) (by omega)) ?_
          refine JQ.go trivial (fun w H => RX.loadS H (SlAt.cons (SlAt.cons ho5.slAt)) rfl (j := k) (by omega) (v := .int .u64 ((y : Nat) : Int)) (u64sV_get hy) one31) ?_
          refine JQ.go trivial (fun w H => RX.movev (v := Value.int _ _) rfl) ?_
          refine JQ.go trivial (fun w H => RX.rem rfl rfl (by omega) rem_nat) ?_
          refine JQ.go trivial (fun w H => RX.mul rfl rfl (wn (n := x % p * (y % p)) (Int.natCast_mul _ _).symm hmul)) ?_
          refine JQ.go trivial (fun w H => RX.movev (v := Value.int _ _) rfl) ?_
          refine JQ.go trivial (fun w H => RX.rem rfl rfl (by omega) rem_nat) ?_
          refine JQ.go trivial (fun w H => RX.movev (v := Value.slice _ _ _) rfl) ?_
          refine JQ.go trivial (fun w H => RX.movev (v := Value.int _ _) rfl) ?_
          refine JQ.go trivial (fun w H => RX.indexAddr rfl rfl sl29 (by omega) (by omega) (o' := k) (by omega)) ?_
          refine JQ.go trivial (fun w H => RX.loadS H ho7.slAt rfl (j := k) (by omega) (v := .int .u64 ((z : Nat) : Int)) (u64sV_get hz) one31) ?_
          refine JQ.go trivial (fun w H => RX.ne rfl rfl) ?_
          refine JQ.nil fun w H => ?_
          refine J.cond_f rfl (decide_eq_false (fun h => h (by rw [hlaw]))) ?_
          refine J.skip ?_
          refine J.inBlock ?_
          refine J.region ?_
          refine JL.go trivial (RX.add rfl rfl (wi (n := k + 1) (by omega) (by omega))) ?_
          refine JL.go trivial (RX.movev (v := Value.int _ _) rfl) ?_
          refine JL.nil ?_
          exact IH2 (k + 1) _ _ (by omega) ⟨rfl, rfl, rfl, rfl, rfl, rfl, rfl, rfl, rfl, rfl, rfl, rfl, trivial⟩ ⟨rfl, trivial⟩ ⟨by omega, H⟩
        · skip
          refine J.exit rfl ?_
          refine J.inBlock ?_
          refine J.region ?_
          refine JL.go trivial (RX.add rfl rfl (wi (n := i + 1) (by omega) (by omega))) ?_
          refine JL.go trivial (RX.movev (v := Value.int _ _) rfl) ?_
          refine JL.nil ?_
          exact IH (i + 1) _ _ (by omega) ⟨rfl, rfl, rfl, rfl, rfl, rfl, trivial⟩ ⟨rfl, trivial⟩ ⟨by omega, H.drop.drop.drop.drop.drop.drop⟩
    · skip
      refine J.exit rfl ?_
      refine J.seq ?_
      refine J.region ?_
      refine JL.go trivial (RX.assign) ?_
      refine JL.nil ?_
      refine J.ret1 (v := Value.bool _) Tryz.func3 rfl rfl ?_
      exact ⟨_, rfl, rfl, H.drop.drop⟩
end Nn
end Go.Proofs.YtemaoofjdnmhhaaGreatDoor
