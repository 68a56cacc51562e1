/- Good steps, first faults: plain facts. -/
import Derived.Test.YtafhajgebhicdaaDoorSt
namespace Go.Proofs.YtafhajgebhicdaaDoor
open Go Go.Eng
set_option maxRecDepth 100000
set_option linter.unusedVariables false
set_option linter.unusedSimpArgs false

/-- What a step in form has. -/
theorem form_facts {s : Stp} (h : formB s = true) : 1 ≤ s.op ∧ s.op ≤ 11 ∧ 0 ≤ s.dst ∧ s.dst ≤ 262143 ∧ 1 ≤ s.count ∧ s.count ≤ 262144 ∧
    0 ≤ s.src ∧ s.src ≤ 262143 ∧ 0 ≤ s.jump ∧ s.jump ≤ 262144 ∧ 0 ≤ s.n ∧ s.n ≤ 16384 ∧
    (s.op = 1 ∨ s.op = 2 ∨ s.op = 5 ∨ s.op = 6 → 1 ≤ s.jump) ∧ (s.op = 5 → 2 ≤ s.n ∧ s.n ≤ 5 ∧ s.count ≤ s.jump) ∧ (s.op = 6 → 1 ≤ s.n ∧ s.n ≤ 64 ∧ s.count ≤ s.n) := by
  unfold formB at h
  simp only [Bool.and_eq_true] at h
  obtain ⟨⟨hop, ⟨⟨⟨⟨⟨hd, hc⟩, hsr⟩, hj⟩, hn⟩, hk⟩⟩, ht⟩ := h
  have hop := of_decide_eq_true hop
  have hd := of_decide_eq_true hd
  have hc := of_decide_eq_true hc
  unfold tailB at ht
  rcases op_cases hop.1 hop.2 with e | e | e | e | e | e | e | e | e | e | e <;> rw [e] at hsr hj hn ht ⊢ <;>
    simp [fromB, rowOf, rows, row0] at hsr hj hn ht <;> omega
structure Cl where
  at_ : Int
  jump : Int
  cnt : Int
def Cl.last (c : Cl) : Int := c.at_ + (c.cnt - 1) * c.jump
def Cl.has (c : Cl) (x : Int) : Int := if x < c.at_ ∨ c.last < x ∨ (x - c.at_) % c.jump ≠ 0 then -1 else (x - c.at_) / c.jump
def wr (s : Stp) : Cl := if s.op = 2 then ⟨s.dst, s.jump, s.count⟩ else ⟨s.dst, 1, s.count⟩
def rds (s : Stp) : Option (Cl × Bool) :=
  if s.op = 1 then some (⟨s.src, s.jump, s.count⟩, false) else if s.op = 2 then some (⟨s.src, 1, s.count⟩, false)
  else if s.op = 6 then some (⟨s.src, s.jump, s.n⟩, true) else if s.op = 9 then some (⟨s.src, 1, s.count⟩, false) else none
def okRead (s : Stp) (r : Cl) (ev : Bool) (i : Nat) : Bool :=
  decide ((wr s).has (r.at_ + i * r.jump) < 0) || !((decide ((wr s).has (r.at_ + i * r.jump) ≠ i) && !ev) || (ev && decide (1 < s.count)))
def goodP (s : Stp) (n : Int) : Bool :=
  formB s && if s.op = 5 then decide (s.dst + (s.n - 1) * s.jump + (s.count - 1) < n)
    else decide ((wr s).last < n) && match rds s with
      | none => true
      | some (r, ev) => decide (r.last < n) && (List.range r.cnt.toNat).all (okRead s r ev)
def actR (s : Stp) (i : Int) : List Int :=
  if s.op = 1 then [s.src + i * s.jump] else if s.op = 2 then [s.src + i] else if s.op = 3 ∨ s.op = 8 then []
  else if s.op = 5 then (List.range s.n.toNat).map fun q : Nat => s.dst + i + q * s.jump
  else if s.op = 6 then (List.range s.n.toNat).map fun j : Nat => s.src + j * s.jump
  else if s.op = 9 then [s.dst + i, s.src + i] else [s.dst + i]
def actW (s : Stp) (i : Int) : List Int :=
  if s.op = 2 then [s.dst + i * s.jump] else if s.op = 5 then (List.range s.n.toNat).map fun q : Nat => s.dst + i + q * s.jump else [s.dst + i]
def mx (m : Int) (l : List Int) : Int := l.foldl max m
def lastR (s : Stp) : Int := mx (mx (mx (mx 0 (actR s 0)) (actW s 0)) (actR s (s.count - 1))) (actW s (s.count - 1))
def writerR (s : Stp) (c : Int) : Int :=
  if c - s.dst < 0 then -1
  else if s.op = 2 then (if (c - s.dst) % s.jump ≠ 0 then -1 else if s.count ≤ (c - s.dst) / s.jump then -1 else (c - s.dst) / s.jump)
  else if s.op = 5 then (if s.n ≤ (c - s.dst) / s.jump then -1 else if s.count ≤ (c - s.dst) % s.jump then -1 else (c - s.dst) % s.jump)
  else if s.count ≤ c - s.dst then -1 else c - s.dst
def apartR (s : Stp) : Bool := (List.range s.count.toNat).all fun i => (actR s i).all fun c => decide (writerR s c < 0) || decide (writerR s c = (i : Int))
def goodR (s : Stp) (n : Int) : Bool := formB s && decide (lastR s < n) && apartR s
theorem mx_lt {n : Int} : ∀ {l : List Int} {m : Int}, mx m l < n ↔ m < n ∧ ∀ x ∈ l, x < n
  | [], m => by simp [mx]
  | a :: l, m => by
    have ih := mx_lt (n := n) (l := l) (m := max m a)
    unfold mx at ih ⊢
    rw [List.foldl_cons, ih]
    simp only [List.mem_cons, forall_eq_or_imp]
    constructor
    · rintro ⟨h1, h2⟩; exact ⟨by omega, by omega, h2⟩
    · rintro ⟨h1, h2, h3⟩; exact ⟨by omega, h3⟩
theorem last_lt {s : Stp} {n : Int} : lastR s < n ↔ 0 < n ∧ (∀ x ∈ actR s 0, x < n) ∧ (∀ x ∈ actW s 0, x < n) ∧ (∀ x ∈ actR s (s.count - 1), x < n) ∧ ∀ x ∈ actW s (s.count - 1), x < n := by
  unfold lastR
  rw [mx_lt, mx_lt, mx_lt, mx_lt]
  simp only [and_assoc]

theorem last_mk (a j c : Int) : Cl.last ⟨a, j, c⟩ = a + (c - 1) * j := (Int.add_comm a ((c - 1) * j)).trans (Int.add_comm _ a)
theorem wr_one {s : Stp} (h : s.op ≠ 2) : wr s = ⟨s.dst, 1, s.count⟩ := if_neg h
theorem has_writer {s : Stp} (hf : formB s = true) (h5 : s.op ≠ 5) (c : Int) : (wr s).has c = writerR s c := by
  obtain ⟨_, _, hd0, _, hc0, _, _, _, _, _, _, _, hj, _, _⟩ := form_facts hf
  unfold writerR
  rw [if_neg h5]
  by_cases h2 : s.op = 2
  · have hj1 := hj (.inr (.inl h2))
    rw [if_pos h2]
    simp only [wr, if_pos h2, Cl.has, Cl.last]
    by_cases h0 : c - s.dst < 0
    · rw [if_pos h0, if_pos (by left; omega)]
    · rw [if_neg h0]
      by_cases hm : (c - s.dst) % s.jump = 0
      · rw [if_neg (show ¬ (c - s.dst) % s.jump ≠ 0 by omega)]
        have hdv := Int.mul_ediv_add_emod (c - s.dst) s.jump
        rw [hm, Int.add_zero] at hdv
        have key : s.count ≤ (c - s.dst) / s.jump ↔ s.dst + (s.count - 1) * s.jump < c := by
          rw [Int.le_ediv_iff_mul_le (by omega)]
          have e1 : (s.count - 1) * s.jump = s.count * s.jump - s.jump := by rw [Int.sub_mul, Int.one_mul]
          constructor
          · intro h; rw [e1]; omega
          · intro h
            rw [e1] at h
            generalize (c - s.dst) / s.jump = q at hdv
            have e2 : (s.count - 1) * s.jump < q * s.jump := by rw [e1, Int.mul_comm q]; omega
            have e3 : s.count - 1 < q := Int.lt_of_mul_lt_mul_right e2 (by omega)
            have e4 : s.count * s.jump ≤ q * s.jump := Int.mul_le_mul_of_nonneg_right (by omega) (by omega)
            rw [Int.mul_comm q] at e4
            omega
        by_cases hk : s.count ≤ (c - s.dst) / s.jump
        · rw [if_pos hk, if_pos (by right; left; exact key.1 hk)]
        · rw [if_neg hk, if_neg]
          rintro (h | h | h)
          · omega
          · exact hk (key.2 h)
          · exact h hm
      · rw [if_pos hm, if_pos (by right; right; exact hm)]
  · rw [if_neg h2, wr_one h2]
    simp only [Cl.has, Cl.last]
    have e1 : (c - s.dst) % 1 = 0 := Int.emod_one _
    have e2 : (c - s.dst) / 1 = c - s.dst := Int.ediv_one _
    simp only [e1, e2, Int.mul_one, ne_eq, not_true_eq_false, or_false]
    split <;> split <;> first | rfl | omega | (split <;> omega)
theorem own_writer {s : Stp} (h5 : s.op ≠ 5) (h2 : s.op ≠ 2) {i : Nat} (hi : (i : Int) < s.count) : writerR s (s.dst + i) = i := by
  unfold writerR
  rw [if_neg h5, if_neg h2, if_neg (by omega), if_neg (by omega)]; omega
theorem fly_writer {s : Stp} (h5 : s.op = 5) {i q : Nat} (hi : (i : Int) < s.count) (hj : s.count ≤ s.jump) (hq : (q : Int) < s.n) : writerR s (s.dst + i + q * s.jump) = i := by
  have hqj : 0 ≤ (q : Int) * s.jump := Int.mul_nonneg (by omega) (by omega)
  have e : s.dst + i + q * s.jump - s.dst = i + q * s.jump := by omega
  have e1 : ((i : Int) + q * s.jump) / s.jump = q := by
    rw [Int.add_mul_ediv_right _ _ (by omega), Int.ediv_eq_zero_of_lt (by omega) (by omega)]; omega
  have e2 : ((i : Int) + q * s.jump) % s.jump = i := by
    rw [Int.add_mul_emod_self_right, Int.emod_eq_of_lt (by omega) (by omega)]
  unfold writerR
  rw [e, if_neg (by omega), if_neg (by omega), if_pos h5, e1, e2, if_neg (by omega), if_neg (by omega)]
theorem okRead_false {s : Stp} (hf : formB s = true) (h5 : s.op ≠ 5) {r : Cl} {i : Nat} : okRead s r false i = (decide (writerR s (r.at_ + i * r.jump) < 0) || decide (writerR s (r.at_ + i * r.jump) = (i : Int))) := by
  unfold okRead
  rw [has_writer hf h5]
  by_cases h : writerR s (r.at_ + i * r.jump) = (i : Int) <;> simp [h]
theorem okRead_true {s : Stp} (hf : formB s = true) (h5 : s.op ≠ 5) {r : Cl} {i : Nat} : okRead s r true i = (decide (writerR s (r.at_ + i * r.jump) < 0) || decide (s.count ≤ 1)) := by
  unfold okRead
  rw [has_writer hf h5]
  by_cases h : s.count ≤ 1
  · simp [h, show ¬ 1 < s.count by omega]
  · simp [h, show 1 < s.count by omega]
theorem good_eq (s : Stp) (n : Int) : goodP s n = goodR s n := by
  by_cases hf : formB s = true
  · unfold goodP goodR
    rw [hf, Bool.true_and, Bool.true_and, Bool.eq_iff_iff, Bool.and_eq_true]
    obtain ⟨ho1, ho2, hd0, _, hc0, _, hs0, _, hj0, _, hn0, _, hj, h5', h6'⟩ := form_facts hf
    have hap : apartR s = true ↔ ∀ i : Nat, (i : Int) < s.count → ∀ c ∈ actR s i, writerR s c < 0 ∨ writerR s c = i := by
      unfold apartR
      simp only [List.all_eq_true, List.mem_range, Bool.or_eq_true, decide_eq_true_eq]
      exact ⟨fun h i hi => h i (by omega), fun h i hi => h i (by omega)⟩
    rw [decide_eq_true_iff, last_lt, hap]
    by_cases h5 : s.op = 5
    · obtain ⟨hn2, hn5, hcj⟩ := h5' h5
      rw [if_pos h5, decide_eq_true_iff]
      simp only [actR, actW, h5]
      simp only [show ¬ ((5 : Int) = 1) by decide, show ¬ ((5 : Int) = 2) by decide, show ¬ ((5 : Int) = 3 ∨ (5 : Int) = 8) by decide, if_false, if_true, List.mem_map, List.mem_range, forall_exists_index, and_imp, forall_apply_eq_imp_iff₂]
      have hq : ∀ q : Nat, q < s.n.toNat → (q : Int) * s.jump ≤ (s.n - 1) * s.jump := fun q h => Int.mul_le_mul_of_nonneg_right (by omega) (by omega)
      have hn1 : 0 ≤ (s.n - 1) * s.jump := Int.mul_nonneg (by omega) (by omega)
      constructor
      · intro h
        refine ⟨⟨by omega, fun q hq' => ?_, fun q hq' => ?_, fun q hq' => ?_, fun q hq' => ?_⟩, fun i hi q hq' => .inr (fly_writer h5 hi hcj (by omega))⟩ <;> have := hq q hq' <;> omega
      · rintro ⟨⟨_, _, _, _, h⟩, _⟩
        have := h (s.n.toNat - 1) (by omega)
        rw [show ((s.n.toNat - 1 : Nat) : Int) = s.n - 1 by omega] at this
        omega
    · rw [if_neg h5, Bool.and_eq_true, decide_eq_true_iff]
      have hall : ∀ (c : Int) (p : Nat → Bool), (List.range c.toNat).all p = true ↔ ∀ i : Nat, (i : Int) < c → p i = true := fun c p => by
        simp only [List.all_eq_true, List.mem_range]
        exact ⟨fun h i hi => h i (by omega), fun h i hi => h i (by omega)⟩
      by_cases h1 : s.op = 1
      · have hj1 := hj (.inl h1)
        have hcj : 0 ≤ (s.count - 1) * s.jump := Int.mul_nonneg (by omega) (by omega)
        simp only [rds, h1, if_true, Bool.and_eq_true, decide_eq_true_eq, hall, okRead_false hf h5, Bool.or_eq_true, wr_one (show s.op ≠ 2 by omega), last_mk, actR, actW, show ¬ ((1 : Int) = 2) by decide, show ¬ ((1 : Int) = 5) by decide, if_false, List.mem_singleton, forall_eq]
        constructor
        · rintro ⟨h, h', h''⟩; exact ⟨⟨by omega, by omega, by omega, by omega, by omega⟩, h''⟩
        · rintro ⟨⟨_, _, _, h', h⟩, h''⟩; exact ⟨by omega, h', h''⟩
      · by_cases h2 : s.op = 2
        · have hj1 := hj (.inr (.inl h2))
          have hcj : 0 ≤ (s.count - 1) * s.jump := Int.mul_nonneg (by omega) (by omega)
          simp only [rds, wr, h2, show ¬ ((2 : Int) = 1) by decide, show ¬ ((2 : Int) = 5) by decide, if_true, if_false, Bool.and_eq_true, decide_eq_true_eq, hall, okRead_false hf h5, Bool.or_eq_true, last_mk, actR, actW, List.mem_singleton, forall_eq, Int.mul_one]
          constructor
          · rintro ⟨h, h', h''⟩; exact ⟨⟨by omega, by omega, by omega, by omega, by omega⟩, h''⟩
          · rintro ⟨⟨_, _, _, h', h⟩, h''⟩; exact ⟨by omega, by omega, h''⟩
        · have hwl : (wr s).last = s.dst + (s.count - 1) := by rw [wr_one h2]; simp [last_mk]
          have hW : ∀ i, actW s i = [s.dst + i] := fun i => by unfold actW; rw [if_neg h2, if_neg h5]
          rw [hwl, hW, hW]
          simp only [List.mem_singleton, forall_eq]
          by_cases h6 : s.op = 6
          · obtain ⟨hn1, hn64, hcn⟩ := h6' h6
            have hj1 := hj (.inr (.inr (.inr h6)))
            have hq : ∀ q : Nat, (q : Int) < s.n → (q : Int) * s.jump ≤ (s.n - 1) * s.jump := fun q h => Int.mul_le_mul_of_nonneg_right (by omega) (by omega)
            have hnj : 0 ≤ (s.n - 1) * s.jump := Int.mul_nonneg (by omega) (by omega)
            have hR : ∀ i (p : Int → Prop), (∀ c ∈ actR s i, p c) ↔ ∀ j : Nat, (j : Int) < s.n → p (s.src + j * s.jump) := fun i p => by
              simp only [actR, h6, show ¬ ((6 : Int) = 1) by decide, show ¬ ((6 : Int) = 2) by decide, show ¬ ((6 : Int) = 3 ∨ (6 : Int) = 8) by decide, show ¬ ((6 : Int) = 5) by decide, if_true, if_false, List.mem_map, List.mem_range, forall_exists_index, and_imp, forall_apply_eq_imp_iff₂]
              exact ⟨fun h j hj => h j (by omega), fun h j hj => h j (by omega)⟩
            simp only [hR]
            simp only [rds, h6, show ¬ ((6 : Int) = 1) by decide, show ¬ ((6 : Int) = 2) by decide, if_true, if_false, Bool.and_eq_true, decide_eq_true_eq, hall, okRead_true hf h5, Bool.or_eq_true, last_mk]
            constructor
            · rintro ⟨h, h', h''⟩
              refine ⟨⟨by omega, fun j hj => by have := hq j hj; omega, by omega, fun j hj => by have := hq j hj; omega, by omega⟩, fun i hi j hj => ?_⟩
              rcases h'' j hj with h | h
              · exact .inl h
              · by_cases hw : writerR s (s.src + j * s.jump) < 0
                · exact .inl hw
                · right
                  have : writerR s (s.src + j * s.jump) < s.count := by
                    unfold writerR at hw ⊢
                    rw [if_neg h2, if_neg h5] at hw ⊢
                    split
                    · omega
                    · split <;> omega
                  omega
            · rintro ⟨⟨_, h', _, _, h⟩, h''⟩
              refine ⟨by omega, ?_, fun j hj => ?_⟩
              · have := h' (s.n.toNat - 1) (by omega)
                rw [show ((s.n.toNat - 1 : Nat) : Int) = s.n - 1 by omega] at this
                exact this
              · by_cases hc1 : s.count ≤ 1
                · exact .inr hc1
                · left
                  have a := h'' 0 (by omega) j hj
                  have b := h'' 1 (by omega) j hj
                  omega
          · by_cases h9 : s.op = 9
            · simp only [rds, h9, actR, show ¬ ((9 : Int) = 1) by decide, show ¬ ((9 : Int) = 2) by decide, show ¬ ((9 : Int) = 3 ∨ (9 : Int) = 8) by decide, show ¬ ((9 : Int) = 5) by decide, show ¬ ((9 : Int) = 6) by decide, if_true, if_false, Bool.and_eq_true, decide_eq_true_eq, hall, okRead_false hf h5, Bool.or_eq_true, last_mk, Int.mul_one, List.mem_cons, List.not_mem_nil, or_false, forall_eq_or_imp, forall_eq]
              constructor
              · rintro ⟨h, h', h''⟩
                exact ⟨⟨by omega, ⟨by omega, by omega⟩, by omega, ⟨by omega, by omega⟩, by omega⟩, fun i hi => ⟨.inr (own_writer h5 h2 hi), h'' i hi⟩⟩
              · rintro ⟨⟨_, _, _, ⟨_, h'⟩, h⟩, h''⟩; exact ⟨by omega, by omega, fun i hi => (h'' i hi).2⟩
            · have hrd : rds s = none := by unfold rds; rw [if_neg h1, if_neg h2, if_neg h6, if_neg h9]
              rw [hrd]
              by_cases h38 : s.op = 3 ∨ s.op = 8
              · have hR : ∀ i, actR s i = [] := fun i => by unfold actR; rw [if_neg h1, if_neg h2, if_pos h38]
                simp only [hR, List.not_mem_nil, false_imp_iff, implies_true, and_true, true_and]
                constructor
                · intro h; exact ⟨by omega, by omega, by omega⟩
                · rintro ⟨_, _, h⟩; omega
              · have hR : ∀ i, actR s i = [s.dst + i] := fun i => by unfold actR; rw [if_neg h1, if_neg h2, if_neg h38, if_neg h5, if_neg h6, if_neg h9]
                simp only [hR, List.mem_singleton, forall_eq, and_true]
                constructor
                · intro h; exact ⟨⟨by omega, by omega, by omega, by omega, by omega⟩, fun i hi => .inr (own_writer h5 h2 hi)⟩
                · rintro ⟨⟨_, _, _, _, h⟩, _⟩; omega
  · have : formB s = false := by simpa using hf
    simp [goodP, goodR, this]

/-- The first bad step, from step i on, so many acts behind it. -/
def faultA (n : Int) : List Stp → Nat → Int → Int
  | [], _, _ => -1
  | s :: l, i, sum => if i = 65536 ∨ goodP s n = false then i else if 67108864 < sum + s.count then i else faultA n l (i + 1) (sum + s.count)
def faultP (l : List Stp) (n : Int) : Int := faultA n l 0 0
def cnts (l : List Stp) : Int := (l.map Stp.count).sum
theorem cnts_cons (s : Stp) (l : List Stp) : cnts (s :: l) = s.count + cnts l := by simp [cnts]
theorem cnts_app (a b : List Stp) : cnts (a ++ b) = cnts a + cnts b := by simp [cnts]
def headB (len cells inn out : Int) : Bool := decide (1 ≤ len ∧ len ≤ 16384 ∧ 1 ≤ cells ∧ cells ≤ 262144 ∧ 0 ≤ inn ∧ 0 ≤ out ∧ inn ≤ cells - len ∧ out ≤ cells - len)
theorem good_form {s : Stp} {n : Int} (h : goodP s n = true) : formB s = true := by
  unfold goodP at h
  exact (Bool.and_eq_true _ _ ▸ h : _ ∧ _).1
theorem good_count {s : Stp} {n : Int} (h : goodP s n = true) : 1 ≤ s.count ∧ s.count ≤ 262144 := by
  have := form_facts (good_form h)
  omega
theorem good_mono {s : Stp} {n m : Int} (h : goodP s n = true) (hm : n ≤ m) : goodP s m = true := by
  rw [good_eq] at h ⊢
  unfold goodR at h ⊢
  simp only [Bool.and_eq_true, decide_eq_true_eq] at h ⊢
  exact ⟨⟨h.1.1, by omega⟩, h.2⟩
/-- No fault: the steps are good, not too many, and so are their acts. -/
theorem faultA_none {n : Int} : ∀ {l : List Stp} {i : Nat} {sum : Int}, i + l.length ≤ 65536 → (faultA n l i sum = -1 ↔ (∀ s ∈ l, goodP s n = true) ∧ (l = [] ∨ sum + cnts l ≤ 67108864))
  | [], i, sum, _ => by simp [faultA]
  | s :: l, i, sum, hi => by
    simp only [List.length_cons] at hi
    have ih := faultA_none (n := n) (l := l) (i := i + 1) (sum := sum + s.count) (by omega)
    unfold faultA
    by_cases hg : goodP s n = true
    · have hne : ¬ (i = 65536 ∨ goodP s n = false) := by
        rintro (h | h)
        · omega
        · rw [hg] at h; cases h
      rw [if_neg hne]
      by_cases hs : 67108864 < sum + s.count
      · rw [if_pos hs]
        constructor
        · intro h; omega
        · rintro ⟨hall, h | h⟩
          · cases h
          · rw [cnts_cons] at h
            have : 0 ≤ cnts l := by
              clear ih h hi
              induction l with
              | nil => simp [cnts]
              | cons a l ih =>
                have h1 := good_count (hall a (List.mem_cons_of_mem _ List.mem_cons_self))
                have h2 := ih (fun x hx => hall x (by
                  rcases List.mem_cons.1 hx with rfl | hx
                  · exact List.mem_cons_self
                  · exact List.mem_cons_of_mem _ (List.mem_cons_of_mem _ hx)))
                rw [cnts_cons]; omega
            omega
      · rw [if_neg hs, ih, cnts_cons]
        constructor
        · rintro ⟨h1, h2⟩
          refine ⟨fun x hx => ?_, .inr ?_⟩
          · rcases List.mem_cons.1 hx with rfl | hx
            · exact hg
            · exact h1 x hx
          · rcases h2 with rfl | h2
            · simp [cnts]; omega
            · omega
        · rintro ⟨h1, h2⟩
          refine ⟨fun x hx => h1 x (List.mem_cons_of_mem _ hx), ?_⟩
          rcases h2 with h2 | h2
          · cases h2
          · exact .inr (by omega)
    · rw [if_pos (.inr (by simpa using hg))]
      constructor
      · intro h; omega
      · rintro ⟨h, _⟩; exact absurd (h s List.mem_cons_self) hg
theorem faultA_range {n : Int} : ∀ {l : List Stp} {i : Nat} {sum : Int}, faultA n l i sum = -1 ∨ ((i : Int) ≤ faultA n l i sum ∧ faultA n l i sum < i + l.length)
  | [], i, sum => .inl rfl
  | s :: l, i, sum => by
    have ih := faultA_range (n := n) (l := l) (i := i + 1) (sum := sum + s.count)
    simp only [List.length_cons]
    unfold faultA
    split
    · right; omega
    · split
      · right; omega
      · rcases ih with h | h
        · exact .inl h
        · right; omega
/-- Ahead of the first fault there is none. -/
theorem faultA_take {n : Int} : ∀ {l : List Stp} {i j : Nat} {sum : Int}, (faultA n l i sum = -1 ∨ ((i + j : Nat) : Int) ≤ faultA n l i sum) → faultA n (l.take j) i sum = -1
  | [], i, j, sum, _ => by simp [faultA]
  | s :: l, i, 0, sum, _ => by simp [faultA]
  | s :: l, i, j + 1, sum, h => by
    have ih := faultA_take (n := n) (l := l) (i := i + 1) (j := j) (sum := sum + s.count)
    rw [List.take_succ_cons]
    unfold faultA at h ⊢
    split at h
    · omega
    · rename_i h1
      rw [if_neg h1]
      split at h
      · omega
      · rename_i h2
        rw [if_neg h2]
        exact ih (h.imp id (fun h => by omega))

theorem faultA_snoc {n : Int} {s : Stp} : ∀ {l : List Stp} {i : Nat} {sum : Int}, faultA n (l ++ [s]) i sum =
    if faultA n l i sum = -1 then (if i + l.length = 65536 ∨ goodP s n = false then ((i + l.length : Nat) : Int) else if 67108864 < sum + cnts l + s.count then ((i + l.length : Nat) : Int) else -1) else faultA n l i sum
  | [], i, sum => by simp [faultA, cnts]
  | a :: l, i, sum => by
    have ih := faultA_snoc (n := n) (s := s) (l := l) (i := i + 1) (sum := sum + a.count)
    rw [List.cons_append, faultA, faultA]
    by_cases h1 : i = 65536 ∨ goodP a n = false
    · rw [if_pos h1, if_pos h1, if_neg (by omega)]
    · rw [if_neg h1, if_neg h1]
      by_cases h2 : 67108864 < sum + a.count
      · rw [if_pos h2, if_pos h2, if_neg (by omega)]
      · rw [if_neg h2, if_neg h2, ih, cnts_cons, List.length_cons, show i + 1 + l.length = i + (l.length + 1) by omega, show sum + a.count + cnts l = sum + (a.count + cnts l) by omega]
/-- More cells do no harm. -/
theorem faultA_mono {n m : Int} (hm : n ≤ m) : ∀ {l : List Stp} {i : Nat} {sum : Int}, faultA n l i sum = -1 → faultA m l i sum = -1
  | [], _, _, _ => rfl
  | a :: l, i, sum, h => by
    unfold faultA at h ⊢
    split at h
    · omega
    · rename_i h1
      have hg : goodP a n = true := by
        cases hga : goodP a n with
        | true => rfl
        | false => exact absurd (.inr hga) h1
      have hne : ¬ (i = 65536 ∨ goodP a m = false) := by
        rintro (h2 | h2)
        · exact h1 (.inl h2)
        · rw [good_mono hg hm] at h2; cases h2
      rw [if_neg hne]
      split at h
      · omega
      · rename_i h2
        rw [if_neg h2]
        exact faultA_mono hm h
theorem cnts_nonneg {l : List Stp} (h : ∀ s ∈ l, formB s = true) : (l.length : Int) ≤ cnts l := by
  induction l with
  | nil => simp [cnts]
  | cons a l ih =>
    have h1 := form_facts (h a List.mem_cons_self)
    have h2 := ih (fun x hx => h x (List.mem_cons_of_mem _ hx))
    rw [cnts_cons, List.length_cons]; omega

/-- The law's guard: about how many steps it takes to look at a program. -/
def workA : List Stp → Int → Int
  | [], n => n
  | s :: l, n => if formB s = false then n else if 1099511627776 < n + s.count * (1 + s.n % 65) then n + s.count * (1 + s.n % 65) else workA l (n + s.count * (1 + s.n % 65))
theorem workA_cnts : ∀ {l : List Stp} {n : Int}, (∀ s ∈ l, formB s = true) → workA l n ≤ 1099511627776 → n + cnts l ≤ workA l n
  | [], n, _, _ => by simp [workA, cnts]
  | s :: l, n, hf, hw => by
    have h1 := form_facts (hf s List.mem_cons_self)
    unfold workA at hw ⊢
    rw [if_neg (by rw [hf s List.mem_cons_self]; decide)] at hw ⊢
    have hk : s.count * 1 ≤ s.count * (1 + s.n % 65) := Int.mul_le_mul_of_nonneg_left (by omega) (by omega)
    rw [Int.mul_one] at hk
    split at hw
    · omega
    · rename_i h2
      rw [if_neg h2]
      have := workA_cnts (fun x hx => hf x (List.mem_cons_of_mem _ hx)) hw
      rw [cnts_cons]; omega
/-- Beginnings, more cells, a step more. -/
theorem fault_more {n : Int} {l : List Stp} {s : Stp} (hl : l.length < 65536) (h : faultP l n = -1) (hsum : cnts l + s.count ≤ 67108864) (h0 : 0 ≤ cnts l) : faultP (l ++ [s]) n = -1 ↔ faultP [s] n = -1 := by
  unfold faultP at h ⊢
  rw [faultA_snoc, if_pos h]
  simp only [faultA, Nat.zero_add, Int.zero_add]
  cases hg : goodP s n with
  | true =>
    rw [if_neg (by intro h; rcases h with h | h <;> first | omega | cases h), if_neg (by omega), if_neg (by intro h; rcases h with h | h <;> first | omega | cases h), if_neg (by omega)]
  | false =>
    rw [if_pos (.inr rfl), if_pos (.inr rfl)]
    constructor <;> intro h <;> omega
def lv1 : Stp := ⟨1, 2, 0, 1, 2, 0, 0⟩
def lv2 : Stp := ⟨1, 0, 1, 1, 2, 0, 0⟩
theorem lv_fault : faultP [lv1, lv2] 4 = 1 ∧ faultP [lv1] 4 = -1 ∧ formB lv1 = true := by decide
def zeroS (c : Int) : Stp := ⟨3, 0, 0, 0, c, 0, 0⟩
theorem zero_good {c : Int} (h0 : 1 ≤ c) (h1 : c ≤ 262144) : goodP (zeroS c) 262144 = true := by
  have hf : formB (zeroS c) = true := by
    simp [formB, zeroS, opOk, fromB, rowOf, rows, row0, tailB, h0, h1]
  unfold goodP
  rw [hf]
  simp [zeroS, wr, rds, Cl.last]
  omega

end Go.Proofs.YtafhajgebhicdaaDoor
