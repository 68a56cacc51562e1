/- CheckApart: plain facts. -/
import Derived.Test.YtafhajgebhicdaaDoorLa
import Derived.Laws.MakeOwn
namespace Go.Proofs.YtafhajgebhicdaaDoor
open Go Go.Eng
set_option maxRecDepth 100000
set_option linter.unusedVariables false
set_option linter.unusedSimpArgs false

def mk (n : Nat) (m : Nat → Bool) : List Int := ((List.range n).filter m).map fun c : Nat => (c : Int)
theorem mk_succ (n : Nat) (m : Nat → Bool) : mk (n + 1) m = mk n m ++ (if m n then [(n : Int)] else []) := by
  unfold mk
  rw [List.range_succ, List.filter_append, List.map_append]
  congr 1
  cases h : m n <;> simp [h]
theorem mk_mem {n : Nat} {m : Nat → Bool} {x : Int} : x ∈ mk n m ↔ ∃ c : Nat, c < n ∧ m c = true ∧ (c : Int) = x := by
  unfold mk
  simp only [List.mem_map, List.mem_filter, List.mem_range]
  constructor
  · rintro ⟨c, ⟨h1, h2⟩, h3⟩; exact ⟨c, h1, h2, h3⟩
  · rintro ⟨c, h1, h2, h3⟩; exact ⟨c, ⟨h1, h2⟩, h3⟩
theorem mk_inc (n : Nat) (m : Nat → Bool) : Inc (mk n m) := by
  unfold Inc mk
  rw [List.pairwise_map]
  exact (List.pairwise_lt_range.filter _).imp (fun h => by omega)
theorem mk_pre {m : Nat → Bool} {k : Nat} : ∀ {n : Nat}, k ≤ n → ∃ r, mk n m = mk k m ++ r
  | 0, h => ⟨[], by have : k = 0 := by omega
                    subst this; simp⟩
  | n + 1, h => by
    by_cases e : k = n + 1
    · subst e; exact ⟨[], by simp⟩
    · obtain ⟨r, hr⟩ := mk_pre (m := m) (k := k) (n := n) (by omega)
      exact ⟨r ++ (if m n then [(n : Int)] else []), by rw [mk_succ, hr, List.append_assoc]⟩
theorem mk_get {n k : Nat} {m : Nat → Bool} (hk : k < n) (hm : m k = true) : (mk n m)[(mk k m).length]? = some (k : Int) := by
  obtain ⟨r, hr⟩ := mk_pre (m := m) (show k + 1 ≤ n by omega)
  rw [hr, mk_succ, if_pos hm, List.append_assoc, List.getElem?_append_right (Nat.le_refl _), Nat.sub_self]
  rfl
def fnV (g : Nat → Value) (n : Nat) : List Value := (List.range n).map g
theorem fnV_len (g : Nat → Value) (n : Nat) : (fnV g n).length = n := by simp [fnV]
theorem fnV_get {g : Nat → Value} {n i : Nat} (h : i < n) : (fnV g n)[i]? = some (g i) := by simp [fnV, h]
theorem fnV_set {g g' : Nat → Value} {n c : Nat} {y : Value} (hy : g' c = y) (hg : ∀ x, x < n → x ≠ c → g' x = g x) : (fnV g n).set c y = fnV g' n := by
  apply List.ext_getElem?
  intro k
  rw [List.getElem?_set, fnV_len]
  by_cases hk : k < n
  · rw [fnV_get (g := g) hk, fnV_get (g := g') hk]
    by_cases e : c = k
    · subst e; rw [if_pos rfl, if_pos hk, hy]
    · rw [if_neg e, hg k hk (fun h => e h.symm)]
  · rw [List.getElem?_eq_none (l := fnV g' n) (by rw [fnV_len]; omega)]
    split
    · rw [if_neg (by omega)]
    · rw [List.getElem?_eq_none (by rw [fnV_len]; omega)]
theorem fnV_congr {g g' : Nat → Value} {n : Nat} (h : ∀ x, x < n → g x = g' x) : fnV g n = fnV g' n := by
  unfold fnV
  exact List.map_congr_left (fun x hx => h x (List.mem_range.1 hx))
def accL (f : Nat → List Int) : Nat → List Int
  | 0 => []
  | i + 1 => accL f i ++ f i
theorem accL_mem {f : Nat → List Int} {x : Int} : ∀ {n : Nat}, x ∈ accL f n ↔ ∃ i, i < n ∧ x ∈ f i
  | 0 => by simp [accL]
  | n + 1 => by
    rw [accL, List.mem_append, accL_mem]
    constructor
    · rintro (⟨i, h1, h2⟩ | h)
      · exact ⟨i, by omega, h2⟩
      · exact ⟨n, by omega, h⟩
    · rintro ⟨i, h1, h2⟩
      by_cases e : i = n
      · subst e; exact .inr h2
      · exact .inl ⟨i, by omega, h2⟩
def byI (s : Stp) (ws : List Int) (x : Nat) : Int := if (x : Int) ∈ ws then writerR s x + 1 else 0
def byG (s : Stp) (ws : List Int) (x : Nat) : Value := .int .i64 (byI s ws x)
def inB (rs : List Int) (x : Nat) : Bool := decide ((x : Int) ∈ rs)
def inG (rs : List Int) (x : Nat) : Value := .bool (inB rs x)
theorem act_up {s : Stp} (hf : formB s = true) {i : Nat} (hi : (i : Int) < s.count) :
    (∀ c ∈ actR s i, ∃ c', c' ∈ actR s (s.count - 1) ∧ c ≤ c') ∧ ∀ c ∈ actW s i, ∃ c', c' ∈ actW s (s.count - 1) ∧ c ≤ c' := by
  obtain ⟨_, _, _, _, _, _, _, _, hj0, _, _, _, _⟩ := form_facts hf
  have hm : (i : Int) * s.jump ≤ (s.count - 1) * s.jump := Int.mul_le_mul_of_nonneg_right (by omega) hj0
  constructor
  · intro c hc
    unfold actR at hc ⊢
    split at hc
    · rename_i h; rw [if_pos h]; rw [List.mem_singleton.1 hc]; exact ⟨_, List.mem_singleton.2 rfl, by omega⟩
    · rename_i h; rw [if_neg h]; split at hc
      · rename_i h; rw [if_pos h]; rw [List.mem_singleton.1 hc]; exact ⟨_, List.mem_singleton.2 rfl, by omega⟩
      · rename_i h; rw [if_neg h]; split at hc
        · cases hc
        · rename_i h; rw [if_neg h]; split at hc
          · rename_i h; rw [if_pos h]
            obtain ⟨q, hq, rfl⟩ := List.mem_map.1 hc
            exact ⟨_, List.mem_map.2 ⟨q, hq, rfl⟩, by omega⟩
          · rename_i h; rw [if_neg h]; split at hc
            · rename_i h; rw [if_pos h]
              exact ⟨c, hc, Int.le_refl _⟩
            · rename_i h; rw [if_neg h]; split at hc
              · rename_i h; rw [if_pos h]
                simp only [List.mem_cons, List.not_mem_nil, or_false] at hc ⊢
                rcases hc with rfl | rfl
                · exact ⟨_, .inl rfl, by omega⟩
                · exact ⟨_, .inr rfl, by omega⟩
              · rename_i h; rw [if_neg h]; rw [List.mem_singleton.1 hc]; exact ⟨_, List.mem_singleton.2 rfl, by omega⟩
  · intro c hc
    unfold actW at hc ⊢
    split at hc
    · rename_i h; rw [if_pos h]; rw [List.mem_singleton.1 hc]; exact ⟨_, List.mem_singleton.2 rfl, by omega⟩
    · rename_i h; rw [if_neg h]; split at hc
      · rename_i h; rw [if_pos h]
        obtain ⟨q, hq, rfl⟩ := List.mem_map.1 hc
        exact ⟨_, List.mem_map.2 ⟨q, hq, rfl⟩, by omega⟩
      · rename_i h; rw [if_neg h]; rw [List.mem_singleton.1 hc]; exact ⟨_, List.mem_singleton.2 rfl, by omega⟩
theorem write_act {s : Stp} (hf : formB s = true) {i : Nat} (hi : (i : Int) < s.count) {c : Int} (hc : c ∈ actW s i) : writerR s c = i := by
  obtain ⟨_, _, _, _, _, _, _, _, _, _, _, _, hj, h5, _⟩ := form_facts hf
  unfold actW at hc
  split at hc
  · rename_i h2
    have hjp := hj (.inr (.inl h2))
    rw [List.mem_singleton.1 hc]
    unfold writerR
    have e1 : s.dst + i * s.jump - s.dst = i * s.jump := by omega
    have e0 : 0 ≤ (i : Int) * s.jump := Int.mul_nonneg (by omega) (by omega)
    rw [e1, if_neg (by omega), if_pos h2, Int.mul_emod_left, if_neg (by simp), Int.mul_ediv_cancel _ (by omega), if_neg (by omega)]
  · rename_i h2
    split at hc
    · rename_i h5'
      obtain ⟨q, hq, rfl⟩ := List.mem_map.1 hc
      have hq := List.mem_range.1 hq
      exact fly_writer h5' hi (h5 h5').2.2 (by omega)
    · rename_i h5'
      rw [List.mem_singleton.1 hc]
      exact own_writer h5' h2 hi
theorem write_nodup {s : Stp} (hf : formB s = true) (i : Int) : (actW s i).Nodup := by
  obtain ⟨_, _, _, _, hc0, _, _, _, _, _, _, _, _, h5, _⟩ := form_facts hf
  unfold actW
  split
  · simp
  · split
    · rename_i h
      have hj := (h5 h).2.2
      unfold List.Nodup
      rw [List.pairwise_map]
      refine List.pairwise_lt_range.imp (fun {a b} hab => ?_)
      have : (a : Int) * s.jump < (b : Int) * s.jump := Int.mul_lt_mul_of_pos_right (by omega) (by omega)
      omega
    · simp
structure GoodS (s : Stp) (n : Int) : Prop where
  f : formB s = true
  w : ∀ i : Nat, (i : Int) < s.count → ∀ c ∈ actW s i, 0 ≤ c ∧ c < n ∧ writerR s c = i
  nd : ∀ i : Int, (actW s i).Nodup
  r : ∀ i : Nat, (i : Int) < s.count → ∀ c ∈ actR s i, 0 ≤ c ∧ c < n ∧ (writerR s c < 0 ∨ writerR s c = i)
theorem good_s {s : Stp} {n : Int} (h : goodP s n = true) : GoodS s n := by
  have hf := good_form h
  rw [good_eq] at h
  unfold goodR at h
  simp only [Bool.and_eq_true, decide_eq_true_eq] at h
  obtain ⟨⟨_, hl⟩, ha⟩ := h
  obtain ⟨_, _, _, h3, h4⟩ := last_lt.1 hl
  obtain ⟨_, _, _, _, _, hc1, _⟩ := form_facts hf
  refine ⟨hf, fun i hi c hc => ?_, fun i => write_nodup hf i, fun i hi c hc => ?_⟩
  · obtain ⟨c', hc', hle⟩ := (act_up hf hi).2 c hc
    have := h4 c' hc'
    have := (act_bd hf (i := i) (by omega) (by omega)).2 c hc
    exact ⟨by omega, by omega, write_act hf hi hc⟩
  · obtain ⟨c', hc', hle⟩ := (act_up hf hi).1 c hc
    have := h3 c' hc'
    have := (act_bd hf (i := i) (by omega) (by omega)).1 c hc
    refine ⟨by omega, by omega, ?_⟩
    unfold apartR at ha
    have h5 := List.all_eq_true.1 (List.all_eq_true.1 ha i (by simp; omega)) c hc
    simpa using h5
theorem tW_mem {s : Stp} (hf : formB s = true) {x : Int} : x ∈ tW s ↔ ∃ i : Nat, i < s.count.toNat ∧ x ∈ actW s i := by
  by_cases h5 : s.op = 5
  · rw [(t5_eq hf h5).2, flyA_mem]
    have e : ∀ i : Nat, x ∈ actW s i ↔ ∃ q, q < s.n.toNat ∧ s.dst + i + q * s.jump = x := fun i => by
      unfold actW
      rw [if_neg (by omega), if_pos h5]
      simp [List.mem_map]
    simp only [e]
    constructor
    · rintro ⟨q, i, h1, h2, h3⟩; exact ⟨i, h2, q, h1, by omega⟩
    · rintro ⟨i, h2, q, h1, h3⟩; exact ⟨q, i, h1, h2, by omega⟩
  · rw [tW_eq hf h5, clL, upC_mem]
    by_cases h2 : s.op = 2
    · simp only [wr, if_pos h2, actW, List.mem_singleton]
      constructor <;> rintro ⟨i, h, e⟩ <;> exact ⟨i, h, e.symm⟩
    · simp only [wr, if_neg h2, actW, if_neg h5, List.mem_singleton, Int.mul_one]
      constructor <;> rintro ⟨i, h, e⟩ <;> exact ⟨i, h, e.symm⟩
theorem cl_mem {a j c x : Int} : x ∈ clL ⟨a, j, c⟩ ↔ ∃ i : Nat, i < c.toNat ∧ a + i * j = x := by rw [clL, upC_mem]
theorem tR_mem {s : Stp} (hf : formB s = true) {x : Int} : x ∈ tR s ↔ ∃ i : Nat, i < s.count.toNat ∧ x ∈ actR s i := by
  obtain ⟨_, _, _, _, hc0, _, _⟩ := form_facts hf
  by_cases h5 : s.op = 5
  · rw [(t5_eq hf h5).1, ← (t5_eq hf h5).2, tW_mem hf]
    have e : ∀ i : Nat, actR s i = actW s i := fun i => by
      unfold actR actW
      simp [h5]
    simp only [e]
  · have e0 : tR s = rise (baseL s ++ rdsL s) := by simp only [tR, hf, if_true, if_neg h5]
    rw [e0, rise_mem, List.mem_append]
    unfold baseL ownB rdsL rds wr actR
    by_cases h1 : s.op = 1
    · simp [h1, cl_mem]
      constructor <;> rintro ⟨i, h, e⟩ <;> exact ⟨i, h, e.symm⟩
    · by_cases h2 : s.op = 2
      · simp [h2, cl_mem]
        constructor <;> rintro ⟨i, h, e⟩ <;> exact ⟨i, h, e.symm⟩
      · by_cases h38 : s.op = 3 ∨ s.op = 8
        · rcases h38 with h | h <;> simp [h]
        · by_cases h6 : s.op = 6
          · simp [h6, cl_mem]
            intro i hi he
            exact ⟨0, by omega⟩
          · by_cases h9 : s.op = 9
            · simp [h9, cl_mem]
              constructor
              · rintro (⟨i, h, e⟩ | ⟨i, h, e⟩)
                · exact ⟨i, h, .inl e.symm⟩
                · exact ⟨i, h, .inr e.symm⟩
              · rintro ⟨i, h, e | e⟩
                · exact .inl ⟨i, h, e.symm⟩
                · exact .inr ⟨i, h, e.symm⟩
            · have h3 : ¬ s.op = 3 := fun h => h38 (.inl h)
              have h8 : ¬ s.op = 8 := fun h => h38 (.inr h)
              simp only [h1, h2, h3, h8, h5, h6, h9, cl_mem]; simp [cl_mem]
              constructor <;> rintro ⟨i, h, e⟩ <;> exact ⟨i, h, e.symm⟩
theorem tR_mk {s : Stp} {n : Nat} (hg : GoodS s n) : tR s = mk n (inB (accL (fun i : Nat => actR s i) s.count.toNat)) := by
  have hi : Inc (tR s) := by
    unfold tR
    split
    · split <;> exact rise_inc _
    · exact inc_nil
  refine inc_eq hi (mk_inc _ _) fun x => ?_
  rw [tR_mem hg.f, mk_mem]
  constructor
  · rintro ⟨i, h1, h2⟩
    have := hg.r i (by omega) x h2
    exact ⟨x.toNat, by omega, decide_eq_true (accL_mem.2 ⟨i, h1, by rw [show ((x.toNat : Nat) : Int) = x by omega]; exact h2⟩), by omega⟩
  · rintro ⟨c, h1, h2, rfl⟩
    exact accL_mem.1 (of_decide_eq_true h2)
theorem tW_mk {s : Stp} {n : Nat} (hg : GoodS s n) : tW s = mk n (inB (accL (fun i : Nat => actW s i) s.count.toNat)) := by
  have hi : Inc (tW s) := by
    unfold tW
    split
    · split <;> exact rise_inc _
    · exact inc_nil
  refine inc_eq hi (mk_inc _ _) fun x => ?_
  rw [tW_mem hg.f, mk_mem]
  constructor
  · rintro ⟨i, h1, h2⟩
    have := hg.w i (by omega) x h2
    exact ⟨x.toNat, by omega, decide_eq_true (accL_mem.2 ⟨i, h1, by rw [show ((x.toNat : Nat) : Int) = x by omega]; exact h2⟩), by omega⟩
  · rintro ⟨c, h1, h2, rfl⟩
    exact accL_mem.1 (of_decide_eq_true h2)
/-- A cell that an act writes has not been written yet. -/
theorem not_yet {s : Stp} {n : Int} (hg : GoodS s n) {i j : Nat} {c : Int} (hi : (i : Int) < s.count) (hc : (actW s i)[j]? = some c) : c ∉ accL (fun i : Nat => actW s i) i ++ (actW s i).take j := by
  intro h
  have hw := (hg.w i hi c (List.mem_of_getElem? hc)).2.2
  rcases List.mem_append.1 h with h | h
  · obtain ⟨i', h1, h2⟩ := accL_mem.1 h
    have := (hg.w i' (by omega) c h2).2.2
    omega
  · obtain ⟨k, hk⟩ := List.mem_iff_getElem?.1 h
    have hkj : k < j := by have := (List.getElem?_eq_some_iff.1 hk).1; simp at this; omega
    rw [List.getElem?_take_of_lt hkj] at hk
    obtain ⟨h1, e1⟩ := List.getElem?_eq_some_iff.1 hk
    obtain ⟨h2, e2⟩ := List.getElem?_eq_some_iff.1 hc
    have := (List.pairwise_iff_getElem.1 (hg.nd i)) k j h1 h2 hkj
    exact this (by rw [e1, e2])
theorem by_in {s : Stp} {n : Int} (hg : GoodS s n) {c : Nat} (h : (c : Int) ∈ accL (fun i : Nat => actW s i) s.count.toNat) : ∃ i : Nat, writerR s c = i ∧ byI s (accL (fun i : Nat => actW s i) s.count.toNat) c = i + 1 := by
  obtain ⟨i, h1, h2⟩ := accL_mem.1 h
  have := (hg.w i (by omega) _ h2).2.2
  exact ⟨i, this, by unfold byI; rw [if_pos h, this]⟩
theorem by_ne {s : Stp} {n : Int} (hg : GoodS s n) (c : Nat) : decide (¬ byI s (accL (fun i : Nat => actW s i) s.count.toNat) c = 0) = inB (accL (fun i : Nat => actW s i) s.count.toNat) c := by
  unfold inB
  by_cases h : (c : Int) ∈ accL (fun i : Nat => actW s i) s.count.toNat
  · obtain ⟨i, _, e⟩ := by_in hg h
    rw [decide_eq_true h, decide_eq_true (by omega)]
  · rw [decide_eq_false h, decide_eq_false]
    unfold byI
    rw [if_neg h]
    simp
theorem by_set {s : Stp} {ws : List Int} {n : Nat} {c : Int} {i : Int} (h0 : 0 ≤ c) (hw : writerR s c = i) : (fnV (byG s ws) n).set c.toNat (.int .i64 (i + 1)) = fnV (byG s (ws ++ [c])) n := by
  have ec : ((c.toNat : Nat) : Int) = c := by omega
  refine fnV_set ?_ fun x _ hx => ?_
  · unfold byG byI
    rw [ec, if_pos (by simp), hw]
  · unfold byG byI
    have : (x : Int) ≠ c := by omega
    simp [this]
theorem in_set {rs : List Int} {n : Nat} {c : Int} (h0 : 0 ≤ c) : (fnV (inG rs) n).set c.toNat (.bool true) = fnV (inG (rs ++ [c])) n := by
  have ec : ((c.toNat : Nat) : Int) = c := by omega
  refine fnV_set ?_ fun x _ hx => ?_
  · unfold inG inB
    rw [ec]; simp
  · unfold inG inB
    have : (x : Int) ≠ c := by omega
    simp [this]
def upG (W : List Int) (k : Nat) (x : Nat) : Value := .bool (decide (x < k) && inB W x)
theorem up_set {W : List Int} {k n : Nat} : (fnV (upG W k) n).set k (.bool (inB W k)) = fnV (upG W (k + 1)) n := by
  refine fnV_set ?_ fun x _ hx => ?_
  · simp [upG]
  · unfold upG
    by_cases h : x < k
    · rw [decide_eq_true h, decide_eq_true (show x < k + 1 by omega)]
    · rw [decide_eq_false h, decide_eq_false (show ¬ x < k + 1 by omega)]
theorem up_full {W : List Int} {n : Nat} : fnV (upG W n) n = fnV (inG W) n := fnV_congr fun x hx => by simp [upG, inG, hx]
theorem up_zero {W : List Int} {n : Nat} : fnV (upG W 0) n = fnV (fun _ => .bool false) n := fnV_congr fun x hx => by simp [upG]
theorem by_nil {s : Stp} {n : Nat} : fnV (byG s []) n = fnV (fun _ => .int .i64 0) n := fnV_congr fun x hx => by simp [byG, byI]
theorem in_nil {n : Nat} : fnV (inG []) n = fnV (fun _ => .bool false) n := fnV_congr fun x hx => by simp [inG, inB]
theorem info_of {P : Program} {e b : Nat} {z : Value} (h1 : (P.info? e).bind (·.zero) = some z) (h2 : (P.info? e).map (fun i => (i.size, i.bytes)) = some (1, b)) : ∃ i, P.info? e = some i ∧ i.zero = some z ∧ i.size = 1 ∧ i.bytes = b := by
  cases h : P.info? e with
  | none => rw [h] at h2; cases h2
  | some i =>
    rw [h] at h1 h2
    simp at h1 h2
    exact ⟨i, rfl, h1, h2.1, h2.2⟩
section
variable {P : Program} {f : FuncId} {n : Nat} {σ : Env} {w w0 : World} {L : List Seg} {ρ : Operand → Value} {d : Option Tmp} {x y : Operand} {ty : TypeId} {pos : String} {af : Array Edge} {g : Option (Nat × Bool)}
theorem EX.make1 {t e bytes m : Nat} {z : Value} {k : Int} (H : Hp w0 w L) (hu : P.underlying t = some (.slice e)) (hi : ∃ i, P.info? e = some i ∧ i.zero = some z ∧ i.size = 1 ∧ i.bytes = bytes) (hz : z.cells = #[z]) (hx : ρ x = .int .i64 k) (hy : ρ y = .int .i64 k) (hk : k = (m : Nat)) (hb : bytes * m ≤ 281474976710656) (hm : m ≤ 4611686018427387904) :
    Does P ρ ⟨d, .makeSlice t x y, ty, pos, af, g⟩ w fun u w' => ∃ b, u = .slice (some ⟨b, 0, none⟩) m m ∧ Hp w0 w' ([(b, cel (fnV (fun _ => z) m) e)] :: L) := by
  obtain ⟨i, h1, h2, h3, h4⟩ := hi
  subst hk
  have hr := run_make w t e i z hu h1 h2 .i64 .i64 (m : Int) (m : Int) (by omega) (Int.le_refl _) (by rw [h4, ← Int.natCast_mul]; exact Int.ofNat_le.2 hb) (by omega)
  have hc : madeCells z.cells ((m : Int).toNat * i.size) = (fnV (fun _ => z) m).toArray := by
    rw [h3, Int.toNat_natCast, Nat.mul_one, hz]
    unfold madeCells fnV
    apply Array.ext_getElem?
    intro q
    by_cases hq : q < m
    · simp [hq, Nat.mod_one]
    · simp [hq]
  rw [hc] at hr
  refine Does.of_run (v := .slice (some ⟨w.heap.size, 0, none⟩) m m) (w' := w.alloc (cel (fnV (fun _ => z) m) e)) ?_ ⟨_, rfl, H.alloc _⟩
  simp only [execOp, hx, hy, Sem.run_bind, hr, Result.andThen_ok]
  rfl
end

theorem told_b {w0 w : World} {F : List Seg} {l : List Int} {m : Nat → Bool} {n c cm : Nat} {p pm : Option Addr} (H : Hp w0 w F) (hl : l = mk n m) (hs : SlAt F p (intsV l)) (hm : SlAt F pm (fnV (fun x => .bool (m x)) n)) (hn : n ≤ 4398046511104) (hlen : l.length ≤ 4398046511104) : Ret Tryd.prog 23 [.slice p l.length c, .slice pm n cm] w fun v w' => v = .bool true ∧ Hp w0 w' F := by
  refine Calls.of_J (n := 36) Tryd.func23 rfl rfl rfl ?_
  refine J.seq ?_
  refine J.region ?_
  refine JL.go trivial (RX.assign) ?_
  refine JL.nil ?_
  refine J.seq ?_
  refine J.region ?_
  refine JL.go trivial (RX.assign) ?_
  refine JL.nil ?_
  refine J.seq ?_
  refine J.seq ?_
  refine J.region ?_
  refine JL.go trivial (RX.movev (v := Value.slice _ _ _) rfl) ?_
  refine JL.go trivial (RX.len_slice rfl (by rw [sl51]; rfl) rfl) ?_
  refine JL.go trivial (RX.move) ?_
  refine JL.nil ?_
  refine J.block ?_
  refine J.loop (ι := Nat) (S := fun k => [(10, .int .i64 (k : Nat)), (5, .int .i64 ((mk k m).length : Nat))]) (Φ := fun k w => k ≤ n ∧ Hp w0 w F) (μ := fun k => n - k) (C := [(0, _), (8, _), (9, _)]) 0 ⟨rfl, rfl, rfl, trivial⟩ ⟨rfl, rfl, trivial⟩ ?_ ?_
  · exact ⟨Nat.zero_le _, H⟩
  clear H
  rintro k ρ w ⟨hk, H⟩ IH
  refine J.seq ?_
  refine J.region ?_
  refine JL.go trivial (RX.lt rfl rfl) ?_
  refine JL.nil ?_
  refine J.seq ?_
  refine J.cond_d rfl (fun hlt => ?_) (fun hlt => ?_)
  · skip
    obtain ⟨mb, mo, rfl, _⟩ := hm.some (by rw [fnV_len]; omega)
    have hsu := mk_succ k m
    refine J.skip ?_
    refine J.seq ?_
    refine J.block ?_
    refine J.seq ?_
    refine J.region ?_
    refine JL.go trivial (RX.movev (v := Value.int _ _) rfl) ?_
    refine JL.go trivial (RX.indexAddr rfl rfl sl51 (by omega) (by omega) (o' := mo + k) (by omega)) ?_
    refine JL.go trivial (RX.loadS H hm rfl (j := k) rfl (v := .bool (m k)) (fnV_get (by omega)) one4) ?_
    refine JL.go trivial (RX.assignv (v := Value.int _ _) rfl) ?_
    refine JL.go trivial (RX.assignv (v := Value.bool _) rfl) ?_
    refine JL.nil ?_
    refine J.seq ?_
    refine J.seq ?_
    refine J.region ?_
    refine JL.go trivial (RX.movev (v := Value.bool _) rfl) ?_
    refine JL.go trivial (RX.not rfl) ?_
    refine JL.nil ?_
    refine J.cond rfl (fun hmk => ?_) (fun hmk => ?_)
    · skip
      have hmf : m k = false := by simpa using hmk
      rw [hmf] at hsu
      refine J.exit rfl ?_
      refine J.region ?_
      refine JL.go trivial (RX.add rfl rfl (w_i64 (r := ((k + 1 : Nat) : Int)) (by omega) (by omega) (by omega))) ?_
      refine JL.go trivial (RX.movev (v := Value.int _ _) rfl) ?_
      refine JL.nil ?_
      exact IH (k + 1) _ _ (by omega) ⟨rfl, rfl, rfl, trivial⟩ ⟨rfl, (show Value.int .i64 _ = Value.int .i64 _ by rw [hsu]; simp), trivial⟩ ⟨by omega, H⟩
    · skip
      have hmt : m k = true := by simpa using hmk
      rw [hmt] at hsu
      have hget := mk_get (n := n) (by omega) hmt
      rw [← hl] at hget
      have hcl : (mk k m).length < l.length := (List.getElem?_eq_some_iff.1 hget).1
      obtain ⟨lb, lo, rfl, _⟩ := hs.some (by rw [intsV_len]; omega)
      refine J.skip ?_
      refine J.seq ?_
      refine J.seq ?_
      refine J.region ?_
      refine JL.go trivial (RX.movev (v := Value.int _ _) rfl) ?_
      refine JL.go trivial (RX.movev (v := Value.slice _ _ _) rfl) ?_
      refine JL.go trivial (RX.len_slice rfl (by rw [sl43]; rfl) rfl) ?_
      refine JL.go trivial (RX.ge rfl rfl) ?_
      refine JL.go trivial (RX.movev (v := Value.bool _) rfl) ?_
      refine JL.go ⟨_, rfl, (decide_eq_false (by omega))⟩ (RX.movev (v := Value.slice _ _ _) rfl) ?_
      refine JL.go ⟨_, rfl, (decide_eq_false (by omega))⟩ (RX.movev (v := Value.int _ _) rfl) ?_
      refine JL.go ⟨_, rfl, (decide_eq_false (by omega))⟩ (RX.indexAddr rfl rfl sl43 (by omega) (by omega) (o' := lo + (mk k m).length) (by omega)) ?_
      refine JL.go ⟨_, rfl, (decide_eq_false (by omega))⟩ (RX.loadS H hs rfl (j := (mk k m).length) rfl (v := .int .i64 k) (intsV_get hget) one3) ?_
      refine JL.go ⟨_, rfl, (decide_eq_false (by omega))⟩ (RX.movev (v := Value.int _ _) rfl) ?_
      refine JL.go ⟨_, rfl, (decide_eq_false (by omega))⟩ (RX.ne rfl rfl) ?_
      refine JL.go trivial (RX.pick_f rfl (decide_eq_false (by omega))) ?_
      refine JL.nil ?_
      refine J.cond_f rfl (decide_eq_false (fun h => h rfl)) ?_
      refine J.skip ?_
      refine J.region ?_
      refine JL.go trivial (RX.movev (v := Value.int _ _) rfl) ?_
      refine JL.go trivial (RX.add rfl rfl (w_i64 (r := ((mk (k + 1) m).length : Int)) (by rw [hsu]; simp) (by omega) (by rw [hsu]; simp; omega))) ?_
      refine JL.go trivial (RX.assignv (v := Value.int _ _) rfl) ?_
      refine JL.nil ?_
      refine J.inBlock ?_
      refine J.region ?_
      refine JL.go trivial (RX.add rfl rfl (w_i64 (r := ((k + 1 : Nat) : Int)) (by omega) (by omega) (by omega))) ?_
      refine JL.go trivial (RX.movev (v := Value.int _ _) rfl) ?_
      refine JL.nil ?_
      exact IH (k + 1) _ _ (by omega) ⟨rfl, rfl, rfl, trivial⟩ ⟨rfl, rfl, trivial⟩ ⟨by omega, H⟩
  · skip
    refine J.exit rfl ?_
    refine J.seq ?_
    refine J.region ?_
    refine JL.go trivial (RX.movev (v := Value.int _ _) rfl) ?_
    refine JL.go trivial (RX.movev (v := Value.slice _ _ _) rfl) ?_
    refine JL.go trivial (RX.len_slice rfl (by rw [sl43]; rfl) rfl) ?_
    refine JL.go trivial (RX.eq rfl rfl) ?_
    refine JL.go trivial (RX.assignv (v := Value.bool _) rfl) ?_
    refine JL.nil ?_
    refine J.ret1 (v := Value.bool _) Tryd.func23 rfl rfl ?_
    have hkn : k = n := by omega
    subst hkn
    exact ⟨_, rfl, by rw [← hl, decide_eq_true rfl], H⟩
end Go.Proofs.YtafhajgebhicdaaDoor
