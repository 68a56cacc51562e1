/- What is written is read again; what is read is written again; what is cut off is too short. -/
import Derived.Test.YtippfdnjhcpekaaDoorRd
namespace Go.Proofs.YtippfdnjhcpekaaDoor
open Go Go.Eng
set_option maxRecDepth 100000
set_option linter.unusedVariables false
set_option linter.unusedSimpArgs false
theorem rdu_varint : ∀ (x i acc : Nat) (l : List UInt8), i ≤ 9 → acc < 2 ^ (7 * i) → acc + x * 2 ^ (7 * i) < 18446744073709551616 → (0 < x ∨ i = 0) →
    rdu i acc (varint x ++ l) = .ok (acc + x * 2 ^ (7 * i)) (i + (varint x).length) := by
  intro x
  induction x using Nat.strongRecOn with
  | _ x ih =>
    intro i acc l hi ha hx h0
    have hp : 0 < 2 ^ (7 * i) := Nat.pow_pos (by decide)
    by_cases hs : x < 128
    · have hb : (x.toUInt8).toNat = x := by simp [Nat.toUInt8, UInt8.toNat_ofNat', Nat.mod_eq_of_lt (show x < 256 by omega)]
      rw [varint_lt hs, List.singleton_append, rdu_cons rfl, hb]
      have h9 : ¬ (i = 9 ∧ x > 1) := by
        rintro ⟨rfl, h1⟩
        have : 2 * 2 ^ (7 * 9) ≤ x * 2 ^ (7 * 9) := Nat.mul_le_mul_right _ h1
        have e : (2 : Nat) ^ (7 * 9) = 9223372036854775808 := by decide
        rw [e] at this hx; omega
      rw [if_neg h9, if_neg (by omega), if_neg (by omega)]
      simp
    · have hb : ((x % 128 + 128).toUInt8).toNat = x % 128 + 128 := by simp [Nat.toUInt8, UInt8.toNat_ofNat', Nat.mod_eq_of_lt (show x % 128 + 128 < 256 by omega)]
      rw [varint_ge (by omega), List.cons_append, rdu_cons rfl, hb]
      have h9 : i ≤ 8 := by
        rcases Nat.lt_or_ge i 9 with h | h
        · omega
        · have : i = 9 := by omega
          subst this
          have : 2 * 2 ^ (7 * 9) ≤ x * 2 ^ (7 * 9) := Nat.mul_le_mul_right _ (by omega)
          have e : (2 : Nat) ^ (7 * 9) = 9223372036854775808 := by decide
          rw [e] at this hx; omega
      have hm : (x % 128 + 128) % 128 = x % 128 := by omega
      rw [if_neg (by omega), if_pos (by omega), hm]
      obtain ⟨hpw, _, _⟩ := pow7a h9
      have hy := pow7y (y := x % 128) (i := i) h9 (by omega)
      have hsum : x % 128 * 2 ^ (7 * i) + x / 128 * 2 ^ (7 * (i + 1)) = x * 2 ^ (7 * i) := by
        rw [hpw, Nat.mul_comm (2 ^ (7 * i)) 128, ← Nat.mul_assoc, ← Nat.add_mul]; congr 1; omega
      rw [ih (x / 128) (by omega) (i + 1) _ l (by omega) (by omega) (by omega) (.inl (by omega))]
      congr 1
      · omega
      · simp only [List.length_cons]; omega
theorem u8back {b : UInt8} : b.toNat.toUInt8 = b := by simp [Nat.toUInt8]
theorem rdu_back : ∀ (l : List UInt8) (i acc y k : Nat), i ≤ 9 → rdu i acc l = .ok y k → ∃ x, y = acc + x * 2 ^ (7 * i) ∧ i ≤ k ∧ l = varint x ++ l.drop (k - i) ∧ (0 < x ∨ i = 0) := by
  intro l
  induction l with
  | nil => intro i acc y k _ h; cases h
  | cons b m ih =>
    intro i acc y k hi h
    rw [rdu_cons rfl] at h
    have hlt := b.toNat_lt
    split at h
    · cases h
    · split at h
      · rename_i h9 hb
        obtain ⟨x, hy, hk, hm, hx⟩ := ih (i + 1) _ y k (by omega) h
        have hp := (pow7a (i := i) (by omega)).1
        refine ⟨b.toNat % 128 + 128 * x, ?_, by omega, ?_, .inl (by omega)⟩
        · rw [hy, hp, Nat.add_mul, Nat.mul_comm (2 ^ (7 * i)) 128, ← Nat.mul_assoc, Nat.mul_comm x 128]; omega
        · rw [varint_ge (by omega)]
          have e1 : (b.toNat % 128 + 128 * x) % 128 + 128 = b.toNat := by omega
          have e2 : (b.toNat % 128 + 128 * x) / 128 = x := by omega
          rw [e1, e2, u8back, List.cons_append]
          have e3 : k - i = (k - (i + 1)) + 1 := by omega
          rw [e3, List.drop_succ_cons]
          congr 1
      · split at h
        · cases h
        · rename_i h9 h1 h2
          cases h
          refine ⟨b.toNat, rfl, by omega, ?_, by omega⟩
          rw [varint_lt (by omega), u8back]
          have e3 : i + 1 - i = 1 := by omega
          rw [e3]; rfl


theorem rdu_w {x : Nat} (hx : u64ok x) (l : List UInt8) : rdu 0 0 (varint x ++ l) = .ok x (varint x).length := by
  have := rdu_varint x 0 0 l (by omega) (by decide) (by unfold u64ok at hx; simp; omega) (.inr rfl)
  simpa using this
theorem rU_w {x : Nat} (hx : u64ok x) (l : List UInt8) : rU (varint x ++ l) = .ok x (varint x).length := by rw [rU, rdu_w hx]; rfl
theorem rUp_w {x : Nat} {most : Int} (hx : u64ok x) (hm : (x : Int) ≤ most) (l : List UInt8) : rUp most (varint x ++ l) = .ok x (varint x).length := by
  rw [rUp, rdu_w hx]; simp only [Rd.upto]; rw [if_neg (by omega)]; rfl
theorem rUp_wbig {x : Nat} {most : Int} (hx : u64ok x) (hm : most < (x : Int)) (l : List UInt8) : rUp most (varint x ++ l) = .err 3 := by
  rw [rUp, rdu_w hx]; simp only [Rd.upto]; rw [if_pos (by omega)]; rfl
theorem rI_w {x : Int} (h0 : -9223372036854775808 ≤ x) (h1 : x ≤ 9223372036854775807) (l : List UInt8) : rI (varint (zig x) ++ l) = .ok x (varint (zig x)).length := by
  rw [rI, rU_w (zig_le h0 h1)]; simp only [unzig_zig]
theorem canon_canon (b : Nat) : canon (canon b) = canon b := by unfold canon; split <;> simp_all
theorem canon32_canon32 (b : Nat) : canon32 (canon32 b) = canon32 b := by unfold canon32; split <;> simp_all
theorem take_len {a b : List UInt8} {n : Nat} (h : a.length = n) : (a ++ b).take n = a := by subst h; exact List.take_left
theorem drop_len {a b : List UInt8} {n : Nat} (h : a.length = n) : (a ++ b).drop n = b := by subst h; exact List.drop_left
theorem leB_ofLE_n {l : List UInt8} {n : Nat} (h : l.length = n) : leB (ofLE l) n = l := by subst h; exact leB_ofLE l
theorem rFl_w {b : Nat} (hb : u64ok b) (l : List UInt8) : rFl (fB b ++ l) = .ok (canon b) 8 := by
  have hlen : (fB b ++ l).length = 8 + l.length := by rw [List.length_append, fB_len]
  have ht : (fB b ++ l).take 8 = fB b := take_len (fB_len b)
  have ho : ofLE (fB b) = canon b := ofLE_leB 8 _ (by have := canon_ok hb; unfold u64ok at this; omega)
  rw [rFl, if_neg (by omega), ht, ho, if_pos (canon_canon b)]
theorem rF32_w {b : Nat} (hb : u32ok b) (l : List UInt8) : rF32 (leB (canon32 b) 4 ++ l) = .ok (canon32 b) 4 := by
  have hlen : (leB (canon32 b) 4 ++ l).length = 4 + l.length := by rw [List.length_append, leB_len]
  have ht : (leB (canon32 b) 4 ++ l).take 4 = leB (canon32 b) 4 := take_len (leB_len 4 _)
  have ho : ofLE (leB (canon32 b) 4) = canon32 b := ofLE_leB 4 _ (by have := canon32_ok hb; unfold u32ok at this; omega)
  rw [rF32, if_neg (by omega), ht, ho, if_pos (canon32_canon32 b)]
def canC (q : Nat × Nat) : Nat × Nat := (canon q.1, canon q.2)
def canN (q : Nat × Nat) : Nat × Nat := (canon32 q.1, canon32 q.2)
theorem rCo_w {q : Nat × Nat} (h : u64ok q.1 ∧ u64ok q.2) (l : List UInt8) : rCo (cB q ++ l) = .ok (canC q) 16 := by
  refine pair2_ok (k := 8) (k2 := 8) (by rw [List.length_append, cB_len]; omega) ?_ ?_
  · rw [cB, List.append_assoc]; exact rFl_w h.1 _
  · have : (cB q ++ l).drop 8 = fB q.2 ++ l := by
      rw [cB, List.append_assoc]
      exact drop_len (fB_len q.1)
    rw [this]; exact rFl_w h.2 _
theorem rNa_w {q : Nat × Nat} (h : u32ok q.1 ∧ u32ok q.2) (l : List UInt8) : rNa (nB q ++ l) = .ok (canN q) 8 := by
  refine pair2_ok (k := 4) (k2 := 4) (by rw [List.length_append, nB_len]; omega) ?_ ?_
  · rw [nB, List.append_assoc]; exact rF32_w h.1 _
  · have : (nB q ++ l).drop 4 = leB (canon32 q.2) 4 ++ l := by
      rw [nB, List.append_assoc]
      exact drop_len (leB_len 4 _)
    rw [this]; exact rF32_w h.2 _
theorem drop_len_app {a b : List UInt8} : (a ++ b).drop a.length = b := List.drop_left
theorem rTx_w {s : ByteArray} (hs : s.size ≤ 9223372036854775807) (l : List UInt8) : rTx s.size (tB s ++ l) = .ok s.data.toList (tB s).length := by
  have hu : rUp s.size (tB s ++ l) = .ok s.size (varint s.size).length := by
    rw [tB, List.append_assoc]; exact rUp_w (by unfold u64ok; omega) (Int.le_refl _) _
  have hd : (tB s ++ l).drop (varint s.size).length = s.data.toList ++ l := by rw [tB, List.append_assoc]; exact List.drop_left
  have hl := dlen s
  simp only [rTx, hu]
  rw [hd, if_neg (by rw [List.length_append]; omega)]
  congr 1
  · rw [← hl]; exact List.take_left
  · rw [tB, List.length_append, hl]
theorem rMany_w {α β : Type} {one : List UInt8 → Rs β} {f : α → List UInt8} {g : α → β} {Ok : α → Prop} (h1 : ∀ a l, Ok a → one (f a ++ l) = .ok (g a) (f a).length) :
    ∀ (xs : List α) (l : List UInt8), (∀ x ∈ xs, Ok x) → rMany one xs.length ((xs.map f).flatten ++ l) = .ok (xs.map g) ((xs.map f).flatten).length
  | [], l, _ => rfl
  | x :: xs, l, h => by
    have hx := h1 x ((xs.map f).flatten ++ l) (h x List.mem_cons_self)
    have ih := rMany_w h1 xs l (fun y hy => h y (List.mem_cons_of_mem _ hy))
    simp only [List.map_cons, List.flatten_cons, List.append_assoc, List.length_cons, rMany, hx, drop_len_app, ih, List.length_append]
theorem rList_w {α β : Type} {one : List UInt8 → Rs β} {f : α → List UInt8} {g : α → β} {Ok : α → Prop} (h1 : ∀ a l, Ok a → one (f a ++ l) = .ok (g a) (f a).length) {xs : List α} (hn : xs.length ≤ 1048576) (h : ∀ x ∈ xs, Ok x) (l : List UInt8) :
    rList one (varint xs.length ++ (xs.map f).flatten ++ l) = .ok (xs.map g) (varint xs.length ++ (xs.map f).flatten).length := by
  have hu : rUp 1048576 (varint xs.length ++ ((xs.map f).flatten ++ l)) = .ok xs.length (varint xs.length).length := rUp_w (by unfold u64ok; omega) (by omega) _
  rw [List.append_assoc]
  simp only [rList, hu, drop_len_app, rMany_w h1 xs l h, List.length_append]
theorem rCos_w {xs : List (Nat × Nat)} (hn : xs.length ≤ 1048576) (h : ∀ q ∈ xs, u64ok q.1 ∧ u64ok q.2) (l : List UInt8) : rList rCo (clB xs ++ l) = .ok (xs.map canC) (clB xs).length :=
  rList_w (Ok := fun q => u64ok q.1 ∧ u64ok q.2) (fun a l ha => by rw [rCo_w ha, cB_len]) hn h l
theorem rFls_w {xs : List Nat} (hn : xs.length ≤ 1048576) (h : ∀ q ∈ xs, u64ok q) (l : List UInt8) : rList rFl (flB xs ++ l) = .ok (xs.map canon) (flB xs).length :=
  rList_w (Ok := u64ok) (fun a l ha => by rw [rFl_w ha, fB_len]) hn h l
/-- Cut short. -/
theorem rdu_cut : ∀ (x i acc j : Nat), i ≤ 9 → acc < 2 ^ (7 * i) → acc + x * 2 ^ (7 * i) < 18446744073709551616 → j < (varint x).length → rdu i acc ((varint x).take j) = .err 1 := by
  intro x
  induction x using Nat.strongRecOn with
  | _ x ih =>
    intro i acc j hi ha hb hj
    by_cases hx : x < 128
    · rw [varint_lt hx] at hj ⊢
      have : j = 0 := by simpa using hj
      subst this; rfl
    · have hv := varint_ge (x := x) (by omega)
      rw [hv] at hj ⊢
      cases j with
      | zero => rfl
      | succ j =>
        rw [List.take_succ_cons, rdu_cons rfl]
        have hb8 : ((x % 128 + 128).toUInt8).toNat = x % 128 + 128 := by have := u8n (x := x % 128 + 128) (by omega); omega
        have h9 : i ≠ 9 := by
          intro h; subst h
          have e : (2 : Nat) ^ (7 * 9) = 9223372036854775808 := by decide
          rw [e] at hb; omega
        obtain ⟨hp1, hp2, hp3⟩ := pow7a (i := i) (by omega)
        have hy := pow7y (y := x % 128) (i := i) (by omega) (by omega)
        rw [hb8, if_neg (by omega), if_pos (by omega), show (x % 128 + 128) % 128 = x % 128 by omega]
        refine ih (x / 128) (by omega) (i + 1) _ j (by omega) (by omega) ?_ (by simpa using hj)
        have hsplit : x * 2 ^ (7 * i) = x % 128 * 2 ^ (7 * i) + x / 128 * (2 ^ (7 * i) * 128) := by
          rw [Nat.mul_comm (2 ^ (7 * i)) 128, ← Nat.mul_assoc, ← Nat.add_mul]; congr 1; omega
        rw [hp1]; omega
theorem rU_cut {x j : Nat} (hx : u64ok x) (hj : j < (varint x).length) : rdu 0 0 ((varint x).take j) = .err 1 := rdu_cut x 0 0 j (by omega) (by decide) (by unfold u64ok at hx; simp; omega) hj
theorem take_app_lt {a b : List UInt8} {j : Nat} (h : j < a.length) : (a ++ b).take j = a.take j := by rw [List.take_append_of_le_length (by omega)]
theorem take_app_ge {a b : List UInt8} {j : Nat} (h : a.length ≤ j) : (a ++ b).take j = a ++ b.take (j - a.length) := by rw [List.take_append, List.take_of_length_le h]
theorem rTx_cut {s : ByteArray} {j : Nat} (hs : s.size ≤ 9223372036854775807) (hj : j < (tB s).length) : rTx s.size ((tB s).take j) = .err 1 := by
  have hl := dlen s
  by_cases h : j < (varint s.size).length
  · have hu : rUp s.size ((tB s).take j) = .err 1 := by
      rw [tB, take_app_lt h, rUp, rU_cut (by unfold u64ok; omega) h]; rfl
    simp only [rTx, hu]
  · have e : (tB s).take j = varint s.size ++ s.data.toList.take (j - (varint s.size).length) := by rw [tB]; exact take_app_ge (by omega)
    have hu : rUp s.size ((tB s).take j) = .ok s.size (varint s.size).length := by rw [e]; exact rUp_w (by unfold u64ok; omega) (Int.le_refl _) _
    simp only [rTx, hu]
    rw [tB, List.length_append] at hj
    rw [e, drop_len_app, if_pos (by rw [List.length_take]; omega)]
theorem rMany_cut {α β : Type} {one : List UInt8 → Rs β} {f : α → List UInt8} {g : α → β} {Ok : α → Prop} (h1 : ∀ a l, Ok a → one (f a ++ l) = .ok (g a) (f a).length) (h2 : ∀ a j, Ok a → j < (f a).length → one ((f a).take j) = .err 1) :
    ∀ (xs : List α) (j : Nat), (∀ x ∈ xs, Ok x) → j < ((xs.map f).flatten).length → rMany one xs.length (((xs.map f).flatten).take j) = .err 1
  | [], j, _, hj => by simp at hj
  | x :: xs, j, h, hj => by
    have hx := h x List.mem_cons_self
    simp only [List.map_cons, List.flatten_cons] at hj ⊢
    by_cases hlt : j < (f x).length
    · simp only [List.length_cons, rMany, take_app_lt hlt, h2 x j hx hlt]
    · rw [take_app_ge (by omega)]
      rw [List.length_append] at hj
      simp only [List.length_cons, rMany, h1 x _ hx, drop_len_app, rMany_cut h1 h2 xs (j - (f x).length) (fun y hy => h y (List.mem_cons_of_mem _ hy)) (by omega)]
theorem rList_cut {α β : Type} {one : List UInt8 → Rs β} {f : α → List UInt8} {g : α → β} {Ok : α → Prop} (h1 : ∀ a l, Ok a → one (f a ++ l) = .ok (g a) (f a).length) (h2 : ∀ a j, Ok a → j < (f a).length → one ((f a).take j) = .err 1) {xs : List α} {j : Nat} (hn : xs.length ≤ 1048576)
    (h : ∀ x ∈ xs, Ok x) (hj : j < (varint xs.length ++ (xs.map f).flatten).length) : rList one ((varint xs.length ++ (xs.map f).flatten).take j) = .err 1 := by
  by_cases hlt : j < (varint xs.length).length
  · have hu : rUp 1048576 ((varint xs.length).take j) = .err 1 := by rw [rUp, rU_cut (by unfold u64ok; omega) hlt]; rfl
    simp only [rList, take_app_lt hlt, hu]
  · rw [take_app_ge (by omega)]
    rw [List.length_append] at hj
    have hu : rUp 1048576 (varint xs.length ++ ((xs.map f).flatten).take (j - (varint xs.length).length)) = .ok xs.length (varint xs.length).length := rUp_w (by unfold u64ok; omega) (by omega) _
    simp only [rList, hu, drop_len_app, rMany_cut h1 h2 xs _ h (show j - (varint xs.length).length < _ by omega)]
theorem rFl_cut {b j : Nat} (hj : j < (fB b).length) : rFl ((fB b).take j) = .err 1 := by rw [rFl, if_pos (by rw [List.length_take]; rw [fB_len] at hj ⊢; omega)]
theorem rCo_cut {q : Nat × Nat} {j : Nat} (hj : j < (cB q).length) : rCo ((cB q).take j) = .err 1 := pair2_short (by rw [List.length_take]; rw [cB_len] at hj ⊢; omega)
theorem rNa_cut {q : Nat × Nat} {j : Nat} (hj : j < (nB q).length) : rNa ((nB q).take j) = .err 1 := pair2_short (by rw [List.length_take]; rw [nB_len] at hj ⊢; omega)
theorem rCos_cut {xs : List (Nat × Nat)} {j : Nat} (hn : xs.length ≤ 1048576) (h : ∀ q ∈ xs, u64ok q.1 ∧ u64ok q.2) (hj : j < (clB xs).length) : rList rCo ((clB xs).take j) = .err 1 :=
  rList_cut (Ok := fun q => u64ok q.1 ∧ u64ok q.2) (fun a l ha => by rw [rCo_w ha, cB_len]) (fun a j _ hj => rCo_cut hj) hn h hj
theorem rFls_cut {xs : List Nat} {j : Nat} (hn : xs.length ≤ 1048576) (h : ∀ q ∈ xs, u64ok q) (hj : j < (flB xs).length) : rList rFl ((flB xs).take j) = .err 1 :=
  rList_cut (Ok := u64ok) (fun a l ha => by rw [rFl_w ha, fB_len]) (fun a j _ hj => rFl_cut hj) hn h hj
/-- One form. -/
theorem rU_b {x k : Nat} {l : List UInt8} (h : rU l = .ok x k) : varint x = l.take k := by
  unfold rU at h
  cases hr : rdu 0 0 l with
  | err e => rw [hr] at h; cases h
  | ok y m =>
    rw [hr] at h
    cases h
    obtain ⟨z, hz, _, hl, _⟩ := rdu_back l 0 0 x k (by omega) hr
    have hzx : z = x := by simp at hz; exact hz.symm
    subst hzx
    have hk : k ≤ l.length := (by have := (rdu_lt l 0 0 _ _ (by omega) (by decide) hr); omega)
    have hlen := congrArg List.length hl
    rw [List.length_append, List.length_drop] at hlen
    have hvk : (varint z).length = k := by omega
    rw [hl]; exact (take_len hvk).symm
theorem rUp_b {x k : Nat} {most : Int} {l : List UInt8} (h : rUp most l = .ok x k) : varint x = l.take k := rU_b ((rUp_good most l).2 x k h).2.2
theorem rI_b {x : Int} {k : Nat} {l : List UInt8} (h : rI l = .ok x k) : varint (zig x) = l.take k := by
  unfold rI at h
  cases hr : rU l with
  | err e => rw [hr] at h; cases h
  | ok y m => rw [hr] at h; cases h; rw [zig_unzig]; exact rU_b hr
theorem rFl_b {x k : Nat} {l : List UInt8} (h : rFl l = .ok x k) : fB x = l.take k := by
  obtain ⟨hx, rfl, h8, hc, _⟩ := (rFl_good l).2 x k h
  rw [fB, hc, hx]
  have e : (l.take 8).length = 8 := by rw [List.length_take]; omega
  exact leB_ofLE_n e
theorem rF32_b {x k : Nat} {l : List UInt8} (h : rF32 l = .ok x k) : leB (canon32 x) 4 = l.take k := by
  obtain ⟨hx, rfl, h8, hc, _⟩ := (rF32_good l).2 x k h
  rw [hc, hx]
  have e : (l.take 4).length = 4 := by rw [List.length_take]; omega
  exact leB_ofLE_n e
theorem take_two {l : List UInt8} {a b : Nat} : l.take a ++ (l.drop a).take b = l.take (a + b) := by rw [List.take_add]
theorem rCo_b {q : Nat × Nat} {k : Nat} {l : List UInt8} (h : rCo l = .ok q k) : cB q = l.take k := by
  obtain ⟨rfl, h16, ⟨k1, h1⟩, ⟨k2, h2⟩⟩ := (pair2_good rFl_g l).2 q k h
  have e1 := ((rFl_good l).2 _ _ h1).2.1
  have e2 := ((rFl_good _).2 _ _ h2).2.1
  rw [cB, rFl_b h1, rFl_b h2, e1, e2, take_two]
theorem rNa_b {q : Nat × Nat} {k : Nat} {l : List UInt8} (h : rNa l = .ok q k) : nB q = l.take k := by
  obtain ⟨rfl, h16, ⟨k1, h1⟩, ⟨k2, h2⟩⟩ := (pair2_good rF32_g l).2 q k h
  have e1 := ((rF32_good l).2 _ _ h1).2.1
  have e2 := ((rF32_good _).2 _ _ h2).2.1
  rw [nB, rF32_b h1, rF32_b h2, e1, e2, take_two]
theorem rTx_b {most : Int} {x : List UInt8} {k : Nat} {l : List UInt8} (h : rTx most l = .ok x k) : tB ⟨x.toArray⟩ = l.take k := by
  obtain ⟨_, j, hu, rfl, hx, _⟩ := (rTx_good most l).2 x k h
  have hsz : (⟨x.toArray⟩ : ByteArray).size = x.length := by simp [ByteArray.size]
  rw [tB, hsz, rUp_b hu]
  conv => lhs; rhs; rw [show (⟨x.toArray⟩ : ByteArray).data.toList = x from rfl, hx]
  exact take_two
theorem rMany_b {α : Type} {one : List UInt8 → Rs α} {f : α → List UInt8} (h1 : ∀ l a k, one l = .ok a k → f a = l.take k) : ∀ (n : Nat) (l : List UInt8) (xs : List α) (m : Nat), rMany one n l = .ok xs m → (xs.map f).flatten = l.take m
  | 0, l, xs, m, h => by cases h; simp
  | n + 1, l, xs, m, h => by
    unfold rMany at h
    cases ho : one l with
    | err e => rw [ho] at h; cases h
    | ok a k =>
      rw [ho] at h
      simp only at h
      cases hm : rMany one n (l.drop k) with
      | err e => rw [hm] at h; cases h
      | ok zs j =>
        rw [hm] at h
        cases h
        simp only [List.map_cons, List.flatten_cons, h1 _ _ _ ho, rMany_b h1 n _ _ _ hm, take_two]
theorem rList_b' {α : Type} {one : List UInt8 → Rs α} {f : α → List UInt8} (hg : ∀ l, (one l).Good l.length) (h1 : ∀ l a k, one l = .ok a k → f a = l.take k) {l : List UInt8} {xs : List α} {k : Nat} (h : rList one l = .ok xs k) : varint xs.length ++ (xs.map f).flatten = l.take k := by
  unfold rList at h
  cases hu : rUp 1048576 l with
  | err e => rw [hu] at h; cases h
  | ok n j =>
    rw [hu] at h
    simp only at h
    cases hm : rMany one n (l.drop j) with
    | err e => rw [hm] at h; cases h
    | ok zs m =>
      rw [hm] at h
      cases h
      rw [(rMany_good hg n _).2 _ _ hm, rUp_b hu, rMany_b h1 _ _ _ _ hm, take_two]
theorem rCos_b {l : List UInt8} {xs : List (Nat × Nat)} {k : Nat} (h : rList rCo l = .ok xs k) : clB xs = l.take k := rList_b' rCo_g (fun l a k h => rCo_b h) h
theorem rFls_b {l : List UInt8} {xs : List Nat} {k : Nat} (h : rList rFl l = .ok xs k) : flB xs = l.take k := rList_b' rFl_g (fun l a k h => rFl_b h) h

end Go.Proofs.YtippfdnjhcpekaaDoor
