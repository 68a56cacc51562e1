/- direct.Forward on whole numbers of length 1, 2 and 4, held against exact.Small. -/
import Derived.Test.YtahjlcglidgadaaGreatDoorGz
import Derived.Test.YtahjlcglidgadaaGreatDoorLv
namespace Go.Proofs.YtahjlcglidgadaaGreatDoor
open Go Go.Eng
set_option maxRecDepth 100000
set_option linter.unusedVariables false
set_option linter.unusedSimpArgs false
theorem cl15 : callable Tryz.prog 15 = true := by kernel_rfl
theorem cl16 : callable Tryz.prog 16 = true := by kernel_rfl
theorem cl17 : callable Tryz.prog 17 = true := by kernel_rfl
theorem cl4 : callable Tryz.prog 4 = true := by kernel_rfl
theorem cl5 : callable Tryz.prog 5 = true := by kernel_rfl
theorem ki25 : kindOf Tryz.prog 25 = some .u64 := by kernel_rfl
theorem one26 : oneOf Tryz.prog 26 = true := by kernel_rfl
theorem ud2 : Tryz.prog.underlying 2 = some (.int .i64) := by kernel_rfl
theorem ud28 : Tryz.prog.underlying 28 = some (.float .f64) := by kernel_rfl
namespace Cc
def wantL : Nat → List Cf
  | 1 => [([1, 0], [0, 1])]
  | 2 => [([1, 0, 1, 0], [0, 1, 0, 1]), ([1, 0, -1, 0], [0, 1, 0, -1])]
  | _ => [([1, 0, 1, 0, 1, 0, 1, 0], [0, 1, 0, 1, 0, 1, 0, 1]), ([1, 0, 0, 1, -1, 0, 0, -1], [0, 1, -1, 0, 0, -1, 1, 0]), ([1, 0, -1, 0, 1, 0, -1, 0], [0, 1, 0, -1, 0, 1, 0, -1]), ([1, 0, 0, -1, -1, 0, 0, 1], [0, 1, 1, 0, 0, -1, -1, 0])]
def inter : List Int → List Int → List Int
  | a :: us, b :: vs => a :: b :: inter us vs
  | _, _ => []
theorem len_one {l : List Int} (h : l.length = 1) : ∃ a, l = [a] := by
  match l, h with
  | [a], _ => exact ⟨a, rfl⟩
theorem len_two {l : List Int} (h : l.length = 2) : ∃ a b, l = [a, b] := by
  match l, h with
  | [a, b], _ => exact ⟨a, b, rfl⟩
theorem len_four {l : List Int} (h : l.length = 4) : ∃ a b c d, l = [a, b, c, d] := by
  match l, h with
  | [a, b, c, d], _ => exact ⟨a, b, c, d, rfl⟩
theorem dft_small {re im : List Int} (hm : im.length = re.length) (hn : re.length = 1 ∨ re.length = 2 ∨ re.length = 4) {k : Nat} {c : Cf} (hk : (wantL re.length)[k]? = some c) : ev c (inter re im) = (smU re im k re.length, smV re im k re.length) := by
  rcases hn with h | h | h
  · obtain ⟨a, rfl⟩ := len_one h
    obtain ⟨b, rfl⟩ := len_one (hm.trans h)
    match k, hk with
    | 0, hk =>
      cases hk
      simp [ev, inter, dot, smU, smV, ssum, smR, rot]
  · obtain ⟨a, b, rfl⟩ := len_two h
    obtain ⟨x, y, rfl⟩ := len_two (hm.trans h)
    match k, hk with
    | 0, hk => cases hk; simp [ev, inter, dot, smU, smV, ssum, smR, rot]
    | 1, hk => cases hk; simp [ev, inter, dot, smU, smV, ssum, smR, rot]
  · obtain ⟨a, b, c', d, rfl⟩ := len_four h
    obtain ⟨x, y, z, w, rfl⟩ := len_four (hm.trans h)
    match k, hk with
    | 0, hk => cases hk; simp [ev, inter, dot, smU, smV, ssum, smR, rot]; omega
    | 1, hk => cases hk; simp [ev, inter, dot, smU, smV, ssum, smR, rot]; omega
    | 2, hk => cases hk; simp [ev, inter, dot, smU, smV, ssum, smR, rot]; omega
    | 3, hk => cases hk; simp [ev, inter, dot, smU, smV, ssum, smR, rot]; omega

theorem back_small {re im : List Int} (hm : im.length = re.length) (hn : re.length = 1 ∨ re.length = 2 ∨ re.length = 4) {k : Nat} {a b : Int} (ha : re[k]? = some a) (hb : im[k]? = some b) :
    smU (smA0 re im) ((smB0 re im).map (- ·)) k re.length = a * (re.length : Int) ∧ smV (smA0 re im) ((smB0 re im).map (- ·)) k re.length = -b * (re.length : Int) := by
  rcases hn with h | h | h
  · obtain ⟨a, rfl⟩ := len_one h
    obtain ⟨b, rfl⟩ := len_one (hm.trans h)
    match k, ha, hb with
    | 0, ha, hb =>
      cases ha; cases hb
      simp [smA0, smB0, smU, smV, ssum, smR, rot]
  · obtain ⟨a, b, rfl⟩ := len_two h
    obtain ⟨x, y, rfl⟩ := len_two (hm.trans h)
    match k, ha, hb with
    | 0, ha, hb => cases ha; cases hb; simp [smA0, smB0, smU, smV, ssum, smR, rot, List.range_succ]; omega
    | 1, ha, hb => cases ha; cases hb; simp [smA0, smB0, smU, smV, ssum, smR, rot, List.range_succ]; omega
  · obtain ⟨a, b, c', d, rfl⟩ := len_four h
    obtain ⟨x, y, z, w, rfl⟩ := len_four (hm.trans h)
    match k, ha, hb with
    | 0, ha, hb => cases ha; cases hb; simp [smA0, smB0, smU, smV, ssum, smR, rot, List.range_succ]; omega
    | 1, ha, hb => cases ha; cases hb; simp [smA0, smB0, smU, smV, ssum, smR, rot, List.range_succ]; omega
    | 2, ha, hb => cases ha; cases hb; simp [smA0, smB0, smU, smV, ssum, smR, rot, List.range_succ]; omega
    | 3, ha, hb => cases ha; cases hb; simp [smA0, smB0, smU, smV, ssum, smR, rot, List.range_succ]; omega

def unitC (n : Nat) : List Cf := (List.range n).map fun j => (unitL (2 * n) (2 * j), unitL (2 * n) (2 * j + 1))
theorem unitC_len (n : Nat) : (unitC n).length = n := by simp [unitC]
theorem dsum_want {n k : Nat} (hn : n = 1 ∨ n = 2 ∨ n = 4) (hk : k < n) : ∃ c, (wantL n)[k]? = some c ∧ dsum n k (fun j => (unitC n)[j]?) (n - 1) = some c := by
  rcases hn with rfl | rfl | rfl
  · obtain rfl : k = 0 := by omega
    exact ⟨_, rfl, by decide⟩
  · have : k = 0 ∨ k = 1 := by omega
    rcases this with rfl | rfl <;> exact ⟨_, rfl, by decide⟩
  · have : k = 0 ∨ k = 1 ∨ k = 2 ∨ k = 3 := by omega
    rcases this with rfl | rfl | rfl | rfl <;> exact ⟨_, rfl, by decide⟩
theorem unit_ok {n i : Nat} {c : Cf} (hn : n = 1 ∨ n = 2 ∨ n = 4) (h : (unitC n)[i]? = some c) : c.ok = true := by
  have hi := getE_lt h
  rw [unitC_len] at hi
  rcases hn with rfl | rfl | rfl
  · obtain rfl : i = 0 := by omega
    cases h; decide
  · have : i = 0 ∨ i = 1 := by omega
    rcases this with rfl | rfl <;> cases h <;> decide
  · have : i = 0 ∨ i = 1 ∨ i = 2 ∨ i = 3 := by omega
    rcases this with rfl | rfl | rfl | rfl <;> cases h <;> decide
theorem unit_ev {n i : Nat} {c : Cf} {re im : List Int} {a b : Int} (hn : n = 1 ∨ n = 2 ∨ n = 4) (hr : re.length = n) (hm : im.length = n) (h : (unitC n)[i]? = some c) (ha : re[i]? = some a) (hb : im[i]? = some b) : ev c (inter re im) = (a, b) := by
  have hi := getE_lt h
  rw [unitC_len] at hi
  rcases hn with rfl | rfl | rfl
  · obtain ⟨x0, rfl⟩ := len_one hr
    obtain ⟨y0, rfl⟩ := len_one hm
    obtain rfl : i = 0 := by omega
    cases h; cases ha; cases hb
    simp [ev, inter, dot, unitL, List.range_succ]
  · obtain ⟨x0, x1, rfl⟩ := len_two hr
    obtain ⟨y0, y1, rfl⟩ := len_two hm
    have : i = 0 ∨ i = 1 := by omega
    rcases this with rfl | rfl <;> cases h <;> cases ha <;> cases hb <;> simp [ev, inter, dot, unitL, List.range_succ]
  · obtain ⟨x0, x1, x2, x3, rfl⟩ := len_four hr
    obtain ⟨y0, y1, y2, y3, rfl⟩ := len_four hm
    have : i = 0 ∨ i = 1 ∨ i = 2 ∨ i = 3 := by omega
    rcases this with rfl | rfl | rfl | rfl <;> cases h <;> cases ha <;> cases hb <;> simp [ev, inter, dot, unitL, List.range_succ]
theorem inter_mem : ∀ {a b : List Int} {x : Int}, x ∈ inter a b → x ∈ a ∨ x ∈ b
  | [], _, _, h => by simp [inter] at h
  | _ :: _, [], _, h => by simp [inter] at h
  | p :: us, q :: vs, x, h => by
    rw [inter] at h
    rcases List.mem_cons.1 h with rfl | h
    · exact .inl List.mem_cons_self
    · rcases List.mem_cons.1 h with rfl | h
      · exact .inr List.mem_cons_self
      · exact (inter_mem h).imp (List.mem_cons_of_mem _) (List.mem_cons_of_mem _)
def Le40 (l : List Int) : Prop := ∀ x ∈ l, x.natAbs ≤ 1099511627776
theorem inX_inter {re im : List Int} (h1 : Le40 re) (h2 : Le40 im) : InX (inter re im) := fun x hx => by
  rcases inter_mem hx with h | h
  · have := h1 x h; omega
  · have := h2 x h; omega
theorem sm_bound {re im : List Int} (h1 : Le40 re) (h2 : Le40 im) (k : Nat) (hn : re.length ≤ 4) : (smU re im k re.length).natAbs ≤ 4398046511104 ∧ (smV re im k re.length).natAbs ≤ 4398046511104 := by
  have hr : ∀ k j, (smR re im k j).1.natAbs ≤ 1099511627776 ∧ (smR re im k j).2.natAbs ≤ 1099511627776 := fun k j => rot_le (getD_le h1 j) (getD_le h2 j) _
  have hu := ssum_le (f := fun j => (smR re im k j).1) (fun j => (hr k j).1) re.length
  have hv := ssum_le (f := fun j => (smR re im k j).2) (fun j => (hr k j).2) re.length
  have := Nat.mul_le_mul_right 1099511627776 hn
  unfold smU smV
  omega
theorem small_ok {re im : List Int} (hn : re.length = 1 ∨ re.length = 2 ∨ re.length = 4) (hm : im.length = re.length) (h1 : Le40 re) (h2 : Le40 im) : smE re im = 0 ∧ smA re im = smA0 re im ∧ smB re im = smB0 re im := by
  have e : smE re im = 0 := by
    unfold smE
    rw [if_pos ⟨hm, hn⟩, if_pos]
    constructor
    · intro x hx
      obtain ⟨k, _, rfl⟩ := List.mem_map.1 hx
      have := (sm_bound h1 h2 k (by omega)).1
      unfold i64in; omega
    · intro x hx
      obtain ⟨k, _, rfl⟩ := List.mem_map.1 hx
      have := (sm_bound h1 h2 k (by omega)).2
      unfold i64in; omega
  exact ⟨e, if_pos e, if_pos e⟩
theorem smA0_get {re im : List Int} {k : Nat} (h : k < re.length) : (smA0 re im)[k]? = some (smU re im k re.length) := by simp [smA0, h]
theorem smB0_get {re im : List Int} {k : Nat} (h : k < re.length) : (smB0 re im)[k]? = some (smV re im k re.length) := by simp [smB0, h]
theorem eq_beq {f : Nat} {v : Int} (h : IsZ f v) (hv : v.natAbs < 9007199254740992) : (FloatKind.f64.format.order f (fint v) == some .eq) = true := by
  have h1 := isZ_ord h (isZ_fint hv)
  rw [show compare v v = .eq from Int.compare_eq_eq.2 rfl] at h1
  exact beq_iff_eq.2 h1
theorem tmod_small (x : Int) : (x.tmod 1099511627776).natAbs ≤ 1099511627776 := by
  have h1 := Int.tmod_lt_of_pos x (show (0 : Int) < 1099511627776 by decide)
  have h2 := Int.lt_tmod_of_pos x (show (0 : Int) < 1099511627776 by decide)
  omega
/-- The numbers made of the first j pairs, noughts behind. -/
def Parts (re im : List Int) (fs : List (Nat × Nat)) (n j : Nat) : Prop := re.length = n ∧ im.length = n ∧ fs.length = j ∧ Le40 re ∧ Le40 im ∧ ∀ i, i < j → ∃ a b f, re[i]? = some a ∧ im[i]? = some b ∧ fs[i]? = some f ∧ Zc f (a, b)
theorem Parts.rel {re im : List Int} {fs : List (Nat × Nat)} {n : Nat} (h : Parts re im fs n n) (hn : n = 1 ∨ n = 2 ∨ n = 4) : RelF (inter re im) fs (unitC n) := by
  obtain ⟨h1, h2, h3, _, _, h6⟩ := h
  refine ⟨by rw [unitC_len, h3], fun i c hc => ⟨unit_ok hn hc, ?_⟩⟩
  have hi := getE_lt hc
  rw [unitC_len] at hi
  obtain ⟨a, b, f, ha, hb, hf, hz⟩ := h6 i hi
  exact ⟨f, hf, by rw [unit_ev hn h1 h2 hc ha hb]; exact hz⟩
theorem le40_set {l : List Int} {i : Nat} {v : Int} (h : Le40 l) (hv : v.natAbs ≤ 1099511627776) : Le40 (l.set i v) := fun x hx => by
  rcases List.mem_or_eq_of_mem_set hx with h' | rfl
  · exact h x h'
  · exact hv
theorem getE_set_ne {α : Type} {l : List α} {i j : Nat} {v : α} (h : i ≠ j) : (l.set i v)[j]? = l[j]? := by rw [List.getElem?_set, if_neg h]
theorem Parts.snoc {re im : List Int} {fs : List (Nat × Nat)} {n j : Nat} {a b : Int} {f : Nat × Nat} (h : Parts re im fs n j) (hj : j < n) (ha : a.natAbs ≤ 1099511627776) (hb : b.natAbs ≤ 1099511627776) (hf : Zc f (a, b)) : Parts (re.set j a) (im.set j b) (fs ++ [f]) n (j + 1) := by
  obtain ⟨h1, h2, h3, h4, h5, h6⟩ := h
  refine ⟨by simp [h1], by simp [h2], by simp [h3], le40_set h4 ha, le40_set h5 hb, fun i hi => ?_⟩
  by_cases e : i = j
  · subst e
    exact ⟨a, b, f, by rw [List.getElem?_set, if_pos rfl, if_pos (by omega)], by rw [List.getElem?_set, if_pos rfl, if_pos (by omega)], by rw [List.getElem?_append_right (by omega), h3]; simp, hf⟩
  · obtain ⟨a', b', f', k1, k2, k3, k4⟩ := h6 i (by omega)
    exact ⟨a', b', f', by rw [getE_set_ne (Ne.symm e)]; exact k1, by rw [getE_set_ne (Ne.symm e)]; exact k2, by rw [List.getElem?_append_left (by omega)]; exact k3, k4⟩
theorem Parts.put {re im : List Int} {fs : List (Nat × Nat)} {n j : Nat} {a b : Int} (h : Parts re im fs n j) (ha : a.natAbs ≤ 1099511627776) (hb : b.natAbs ≤ 1099511627776) : Parts (re.set j a) (im.set j b) fs n j := by
  obtain ⟨h1, h2, h3, h4, h5, h6⟩ := h
  refine ⟨by simp [h1], by simp [h2], h3, le40_set h4 ha, le40_set h5 hb, fun i hi => ?_⟩
  obtain ⟨a', b', f', k1, k2, k3, k4⟩ := h6 i hi
  exact ⟨a', b', f', by rw [getE_set_ne (by omega)]; exact k1, by rw [getE_set_ne (by omega)]; exact k2, k3, k4⟩
theorem Parts.zero (n : Nat) : Parts (List.replicate n 0) (List.replicate n 0) [] n 0 := ⟨by simp, by simp, rfl, fun x hx => by rw [List.eq_of_mem_replicate hx]; decide, fun x hx => by rw [List.eq_of_mem_replicate hx]; decide, fun i hi => absurd hi (Nat.not_lt_zero _)⟩
theorem Parts.same {re im : List Int} {n : Nat} {j : Nat} {fs : List (Nat × Nat)} {a b : Int} (h : Parts re im fs n j) (hj : j < n) (ha : re[j]? = some a) (hb : im[j]? = some b) {f : Nat × Nat} (hf : Zc f (a, b)) : Parts re im (fs ++ [f]) n (j + 1) := by
  have hr : re.set j a = re := set_self ha
  have hm : im.set j b = im := set_self hb
  have := h.snoc hj (h.2.2.2.1 a (List.mem_of_getElem? ha)) (h.2.2.2.2.1 b (List.mem_of_getElem? hb)) hf
  rwa [hr, hm] at this

theorem repI (n : Nat) : List.replicate n (Value.int .i64 0) = i64sV (List.replicate n 0) := by simp [i64sV]
theorem i64sV_set (l : List Int) (i : Nat) (v : Int) : i64sV (l.set i v) = (i64sV l).set i (.int .i64 v) := by simp [i64sV, List.map_set]
theorem pick124 (u : Nat) : ∃ n : Nat, (i64sV [1, 2, 4])[u % 3]? = some (.int .i64 ((n : Nat) : Int)) ∧ (n = 1 ∨ n = 2 ∨ n = 4) := by
  have : u % 3 = 0 ∨ u % 3 = 1 ∨ u % 3 = 2 := by omega
  rcases this with h | h | h <;> rw [h]
  · exact ⟨1, rfl, .inl rfl⟩
  · exact ⟨2, rfl, .inr (.inl rfl)⟩
  · exact ⟨4, rfl, .inr (.inr rfl)⟩
theorem wrap_u64 (z : Int) : ∃ u : Nat, IntKind.u64.wrap z = ((u : Nat) : Int) ∧ u < 18446744073709551616 := by
  refine ⟨(z % 18446744073709551616).toNat, ?_, by omega⟩
  simp only [IntKind.wrap, IntKind.bits, IntKind.signed]; simp; omega

set_option maxHeartbeats 1600000 in
theorem FwdX_b {w0 w : World} {F : List Seg} {bw by_ bx j n cx : Nat} {ws ys fs : List (Nat × Nat)} {cs : List Cf} {c : Cf} {px : Option Addr} {X : List Int} (H : Hp w0 w ([(bw, cel (cxs ws) 27)] :: [(by_, cel (cxs ys) 27)] :: [(bx, cel [.slice px n cx] 26)] :: F)) (hs : SlAt F px (cxs fs)) (hr : RelF X fs cs) (hfl : fs.length = n) (hn : n ≤ 4) (hc : cs[j]? = some c) : Ret Tryz.prog 17 [.int .i64 ((j : Nat) : Int), .pointer (some ⟨bx, 0, none⟩)] w fun v w' => ∃ f : Nat × Nat, v = .complex .f64 f.1 f.2 ∧ Zc f (ev c X) ∧ c.ok = true ∧ Hp w0 w' ([(bw, cel (cxs ws) 27)] :: [(by_, cel (cxs ys) 27)] :: [(bx, cel [.slice px n cx] 26)] :: F) := by
  refine Calls.of_J (n := 8) Tryz.func17 rfl rfl rfl ?_
  refine J.seq ?_
  refine J.region ?_
  refine JL.go trivial (RX.assign) ?_
  refine JL.nil ?_
  refine J.seq ?_
  have hcl := getE_lt hc
  have hrl := hr.1
  obtain ⟨ho, f, hf, hz⟩ := hr.2 _ _ hc
  obtain ⟨pb, po, rfl, hpp⟩ := hs.some (by rw [cxs_len]; omega)
  refine J.region ?_
  refine JL.go trivial (RX.load H rfl (i := 2) (v := .slice _ _ _) rfl rfl one26) ?_
  refine JL.go trivial (RX.movev (v := Value.int _ _) rfl) ?_
  refine JL.go trivial (RX.indexAddr rfl rfl sl26 (by omega) (by omega) (o' := po + j) (by omega)) ?_
  refine JL.go trivial (RX.loadS H hs.cons.cons.cons rfl (j := j) rfl (v := .complex .f64 f.1 f.2) (cxs_get hf) one27) ?_
  refine JL.go trivial (RX.assignv (v := Value.complex _ _ _) rfl) ?_
  refine JL.nil ?_
  refine J.ret1 (v := Value.complex _ _ _) Tryz.func17 rfl rfl ?_
  exact ⟨_, rfl, f, rfl, hz, ho, H⟩
set_option maxHeartbeats 1600000 in
theorem dFwd_b {w0 w : World} {F : List Seg} (H : Hp w0 w F) {fs : List (Nat × Nat)} {cs : List Cf} {px : Option Addr} {cx n : Nat} {X : List Int} (hn : n = 1 ∨ n = 2 ∨ n = 4) (hX : InX X) (hs : SlAt F px (cxs fs)) (hr : RelF X fs cs) (hfl : fs.length = n) (hd : ∀ k, k < n → ∃ r, dsum n k (fun j => cs[j]?) (n - 1) = some r) : Ret Tryz.prog 5 [.slice px n cx] w fun v w' => ∃ b gs, v = .tuple #[.slice (some ⟨b, 0, none⟩) n n, .nilIface] ∧ gs.length = n ∧ (∀ k, k < n → ∃ r g, dsum n k (fun j => cs[j]?) (n - 1) = some r ∧ (gs)[k]? = some g ∧ Zc g (ev r X)) ∧ Hp w0 w' ([(b, cel (cxs gs) 27)] :: F) := by
  refine Calls.of_J (n := 34) Tryz.func5 rfl rfl rfl ?_
  refine J.seq ?_
  refine J.region ?_
  refine JL.does trivial (EX.box (v := Value.slice _ _ _) H rfl rfl) ?_
  rintro _ w ⟨bx, rfl, H⟩
  refine JL.go trivial (RX.assign) ?_
  refine JL.go trivial (RX.assign) ?_
  refine JL.nil ?_
  refine J.seq ?_
  have hcs := hr.1
  refine J.region ?_
  refine JL.go trivial (RX.load H rfl (i := 0) (v := .slice _ _ _) rfl rfl one26) ?_
  refine JL.go trivial (RX.len_slice rfl (by rw [sl26]; rfl) rfl) ?_
  refine JL.does trivial (EX.call rfl cl15 rfl ((table_b H hn))) ?_
  rintro _ w ⟨bw, ws, rfl, hR, H⟩
  refine JL.go trivial (RX.movev (v := .tuple _) rfl) ?_
  refine JL.go trivial (RX.extract rfl rfl) ?_
  refine JL.go trivial (RX.extract (v := .nilIface) rfl rfl) ?_
  refine JL.go trivial (RX.assignv (v := Value.slice _ _ _) rfl) ?_
  refine JL.go trivial (RX.assignv (v := .nilIface) rfl) ?_
  refine JL.nil ?_
  refine J.seq ?_
  refine J.seq ?_
  refine J.region ?_
  refine JL.go trivial (RX.movev (v := .nilIface) rfl) ?_
  refine JL.go trivial (RX.ifnil_neq (v := .nilIface) rfl rfl rfl if30) ?_
  refine JL.nil ?_
  refine J.cond_f rfl rfl ?_
  refine J.skip ?_
  refine J.seq ?_
  refine J.region ?_
  refine JL.go trivial (RX.load H rfl (i := 1) (v := .slice _ _ _) rfl rfl one26) ?_
  refine JL.go trivial (RX.len_slice rfl (by rw [sl26]; rfl) rfl) ?_
  refine JL.does trivial (EX.makeS (e := 27) (m := n) H mkC.1 mkC.2 rfl rfl rfl (by omega) (by omega) (by omega)) ?_
  rintro _ w ⟨by_, rfl, H⟩
  rw [fnL_rep, repC] at H
  refine JL.go trivial (RX.assignv (v := Value.slice _ _ _) rfl) ?_
  refine JL.nil ?_
  refine J.seq ?_
  refine J.seq ?_
  refine J.region ?_
  refine JL.go trivial (RX.movev (v := Value.slice _ _ _) rfl) ?_
  refine JL.go trivial (RX.len_slice rfl (by rw [sl26]; rfl) rfl) ?_
  refine JL.go trivial (RX.move) ?_
  refine JL.nil ?_
  refine J.block ?_
  refine J.loop (ι := Nat × List (Nat × Nat)) (S := fun z => [(22, .int .i64 ((z.1 : Nat) : Int))]) (Φ := fun z w => z.1 ≤ n ∧ z.2.length = n ∧ (∀ k, k < z.1 → ∃ r g, dsum n k (fun j => cs[j]?) (n - 1) = some r ∧ (z.2)[k]? = some g ∧ Zc g (ev r X)) ∧ Hp w0 w ([(by_, cel (cxs z.2) 27)] :: [(bw, cel (cxs ws) 27)] :: [(bx, cel [.slice px n cx] 26)] :: F)) (μ := fun z => n - z.1) (C := [(1, _), (4, _), (6, _), (21, _)]) (0, List.replicate n (0, 0)) ⟨rfl, rfl, rfl, rfl, trivial⟩ ⟨rfl, trivial⟩ ?_ ?_
  · exact ⟨by simp, by simp, fun k hk => absurd hk (Nat.not_lt_zero _), H⟩
  clear H
  rintro ⟨k, ys⟩ ρ w ⟨hk, hyl, hyk, H⟩ IH
  simp only at hk hyl hyk H
  dsimp only
  refine J.seq ?_
  refine J.region ?_
  refine JL.go trivial (RX.lt rfl rfl) ?_
  refine JL.nil ?_
  refine J.seq ?_
  refine J.cond_d rfl (fun hlt => ?_) (fun hlt => ?_)
  · skip
    have hkn : k < n := by omega
    obtain ⟨r, hdk⟩ := hd k hkn
    refine J.skip ?_
    refine J.seq ?_
    refine J.block ?_
    refine J.seq ?_
    refine J.region ?_
    refine JL.go trivial (RX.movev (v := Value.int _ _) rfl) ?_
    refine JL.go trivial (RX.assignv (v := Value.int _ _) rfl) ?_
    refine JL.nil ?_
    refine J.region ?_
    refine JL.go trivial (RX.movev (v := Value.slice _ _ _) rfl) ?_
    refine JL.go trivial (RX.movev (v := Value.int _ _) rfl) ?_
    refine JL.go trivial (RX.movev (v := Value.slice _ _ _) rfl) ?_
    refine JL.go trivial (RX.movev (v := Value.int _ _) rfl) ?_
    refine JL.go trivial (RX.makeFunc rfl rfl) ?_
    refine JL.does trivial (EX.call rfl cl16 rfl ((sum_b (cl := 17) (cv := [.pointer (some ⟨bx, 0, none⟩)]) (x := (fun j => cs[j]?)) (H.pull 1 rfl) hX hn hkn hR hdk cl17 (fun j c w hj hc H => FwdX_b H hs hr hfl (by omega) hc)))) ?_
    rintro _ w ⟨f, rfl, hf, ho, H⟩
    refine JL.go trivial (RX.indexAddr rfl rfl sl26 (by omega) (by omega) (o' := k) (by omega)) ?_
    refine JL.does trivial (EX.store (v := Value.complex _ _ _) H rfl rfl (i := 1) rfl rfl (by rw [cxs_len]; omega) sz27 rfl rfl) ?_
    rintro _ w H
    refine JL.nil ?_
    refine J.inBlock ?_
    refine J.region ?_
    refine JL.go trivial (RX.add rfl rfl (wi (n := k + 1) (by omega) (by omega))) ?_
    refine JL.go trivial (RX.movev (v := Value.int _ _) rfl) ?_
    refine JL.nil ?_
    simp only [List.set_cons_succ, List.set_cons_zero] at H
    rw [← cxs_set] at H
    refine IH (k + 1, ys.set k f) _ _ (by simp only; omega) ⟨rfl, rfl, rfl, rfl, trivial⟩ ⟨rfl, trivial⟩ ⟨by simp only; omega, by simp only [List.length_set]; exact hyl, fun i hi => ?_, H.pull 1 rfl⟩
    by_cases e : i = k
    · subst e; exact ⟨r, f, hdk, by simp only; rw [List.getElem?_set, if_pos rfl, if_pos (by omega)], hf⟩
    · obtain ⟨r', g, k1, k2, k3⟩ := hyk i (by simp only at hi; omega)
      exact ⟨r', g, k1, by simp only; rw [getE_set_ne (Ne.symm e)]; exact k2, k3⟩
  · skip
    obtain rfl : k = n := by omega
    refine J.exit rfl ?_
    refine J.seq ?_
    refine J.region ?_
    refine JL.go trivial (RX.movev (v := Value.slice _ _ _) rfl) ?_
    refine JL.go trivial (RX.assignv (v := Value.slice _ _ _) rfl) ?_
    refine JL.go trivial (RX.assign) ?_
    refine JL.nil ?_
    refine J.ret2 (v := Value.slice _ _ _) Tryz.func5 rfl rfl rfl ?_
    exact ⟨_, rfl, by_, ys, rfl, hyl, hyk, ((H.pull 1 rfl).drop.pull 1 rfl).drop⟩
set_option maxHeartbeats 1600000 in
theorem ExactFloats_b {w0 w : World} {F : List Seg} {E : Nat → Value} {Q : Nat → Addr} (H : Hp w0 w F) (hE : Errs F E Q) {xs : List Int} {px : Option Addr} {cx : Nat} {pr : Int} (hs : SlAt F px (i64sV xs)) (ok : i64all xs) (hl : xs.length ≤ 9223372036854775807) : Ret Tryz.prog 3 [.slice px xs.length cx, .int .i64 pr] w fun v w' => v = .bool true ∧ Hp w0 w' F := by
  refine Calls.of_J (n := 131) Tryz.func3 rfl rfl rfl ?_
  refine J.seq ?_
  refine J.region ?_
  refine JL.go trivial (RX.assign) ?_
  refine JL.nil ?_
  refine J.seq ?_
  refine J.seq ?_
  refine J.region ?_
  refine JL.does trivial (EX.call rfl cl4 rfl ((lives_b H hE))) ?_
  rintro _ w ⟨rfl, H⟩
  refine JL.go trivial (RX.not rfl) ?_
  refine JL.nil ?_
  refine J.cond_f rfl rfl ?_
  refine J.skip ?_
  refine J.seq ?_
  obtain ⟨u, hu, hu2⟩ := wrap_u64 pr
  obtain ⟨n, hn3, hn⟩ := pick124 u
  refine J.region ?_
  refine JL.does trivial (EX.buildSlice (pv := [(0, .int .i64 1), (1, .int .i64 2), (2, .int .i64 4)]) (l := i64sV [1, 2, 4]) (e := 3) H rfl (by kernel_rfl)) ?_
  rintro _ w ⟨b3, rfl, H⟩
  refine JL.go trivial (RX.movev (v := Value.int _ _) rfl) ?_
  refine JL.go trivial (RX.conv rfl (by rw [ki3]; rfl) ki25 hu) ?_
  refine JL.go trivial (RX.rem rfl rfl (by decide) (rem_nat (b := 3))) ?_
  refine JL.go trivial (RX.indexAddr rfl rfl sl24 (by omega) (by omega) (o' := u % 3) (by omega)) ?_
  refine JL.go trivial (RX.load H rfl (i := 0) (v := .int .i64 ((n : Nat) : Int)) rfl hn3 one3) ?_
  refine JL.go trivial (RX.assignv (v := Value.int _ _) rfl) ?_
  refine JL.nil ?_
  refine J.seq ?_
  refine J.join (ι := Nat × Nat) (fun q => [(6, .slice (some ⟨q.1, 0, none⟩) n n), (7, .slice (some ⟨q.2, 0, none⟩) n n)]) (fun q w => Hp w0 w ([(q.1, cel (i64sV (List.replicate n 0)) 2)] :: [(q.2, cel (i64sV (List.replicate n 0)) 2)] :: [(b3, cel (i64sV [1, 2, 4]) 3)] :: F)) [(0, _), (5, _)] ⟨rfl, rfl, trivial⟩ ?_ ?_
  rotate_left
  · skip
    intro k2 hk2
    refine J.any hmix fun w hs => ?_
    replace H := H.same hs; clear hs
    refine JA.take 0 (listed' := [true, false, false, false, false, false]) rfl (by kernel_rfl) (by kernel_rfl) (by kernel_rfl) rfl trivial (fun w => RX.movev (v := Value.int _ _) rfl) ?_
    refine JA.take 2 (listed' := [true, false, true, false, false, false]) rfl (by kernel_rfl) (by kernel_rfl) (by kernel_rfl) rfl trivial (fun w => RX.movev (v := Value.int _ _) rfl) ?_
    refine JA.all [1, 3] (by kernel_rfl) (by decide) ?_
    refine ⟨?_, ?_⟩
    · skip
      refine JO.does (listed' := [true, true, true, false, false, false]) rfl rfl trivial (EX.makeS (e := 2) (m := n) H mkI.1 mkI.2 rfl rfl rfl (by omega) (by omega) (by omega)) ?_
      rintro _ w ⟨br, rfl, H⟩
      rw [fnL_rep, repI] at H
      refine JA.take 4 (listed' := [true, true, true, false, true, false]) rfl (by kernel_rfl) (by kernel_rfl) (by kernel_rfl) rfl trivial (fun w => RX.assignv (v := Value.slice _ _ _) rfl) ?_
      refine JA.all [3] (by kernel_rfl) (by decide) ?_
      refine JO.does (listed' := [true, true, true, true, true, false]) rfl rfl trivial (EX.makeS (e := 2) (m := n) H mkI.1 mkI.2 rfl rfl rfl (by omega) (by omega) (by omega)) ?_
      rintro _ w ⟨bi, rfl, H⟩
      rw [fnL_rep, repI] at H
      refine JA.take 5 (listed' := [true, true, true, true, true, true]) rfl (by kernel_rfl) (by kernel_rfl) (by kernel_rfl) rfl trivial (fun w => RX.assignv (v := Value.slice _ _ _) rfl) ?_
      refine JA.done (by kernel_rfl) ?_
      first
      | exact hk2 (br, bi) _ _ ⟨rfl, rfl, trivial⟩ ⟨rfl, rfl, trivial⟩ H
      | exact hk2 (br, bi) _ _ ⟨rfl, rfl, trivial⟩ ⟨rfl, rfl, trivial⟩ (H.pull 1 rfl)
    · skip
      refine JO.does (listed' := [true, false, true, true, false, false]) rfl rfl trivial (EX.makeS (e := 2) (m := n) H mkI.1 mkI.2 rfl rfl rfl (by omega) (by omega) (by omega)) ?_
      rintro _ w ⟨bi, rfl, H⟩
      rw [fnL_rep, repI] at H
      refine JA.all [1] (by kernel_rfl) (by decide) ?_
      refine JO.does (listed' := [true, true, true, true, false, false]) rfl rfl trivial (EX.makeS (e := 2) (m := n) H mkI.1 mkI.2 rfl rfl rfl (by omega) (by omega) (by omega)) ?_
      rintro _ w ⟨br, rfl, H⟩
      rw [fnL_rep, repI] at H
      refine JA.take 4 (listed' := [true, true, true, true, true, false]) rfl (by kernel_rfl) (by kernel_rfl) (by kernel_rfl) rfl trivial (fun w => RX.assignv (v := Value.slice _ _ _) rfl) ?_
      refine JA.take 5 (listed' := [true, true, true, true, true, true]) rfl (by kernel_rfl) (by kernel_rfl) (by kernel_rfl) rfl trivial (fun w => RX.assignv (v := Value.slice _ _ _) rfl) ?_
      refine JA.done (by kernel_rfl) ?_
      first
      | exact hk2 (br, bi) _ _ ⟨rfl, rfl, trivial⟩ ⟨rfl, rfl, trivial⟩ H
      | exact hk2 (br, bi) _ _ ⟨rfl, rfl, trivial⟩ ⟨rfl, rfl, trivial⟩ (H.pull 1 rfl)
  · skip
    clear H
    rintro ⟨br, bi⟩ ρ w H
    try dsimp only
    refine J.seq ?_
    refine J.region ?_
    refine JL.does trivial (EX.buildSlice0 H elCx) ?_
    rintro _ w ⟨b8, rfl, H⟩
    refine JL.go trivial (RX.assignv (v := Value.slice _ _ _) rfl) ?_
    refine JL.nil ?_
    refine J.seq ?_
    refine J.seq ?_
    refine J.region ?_
    refine JL.go trivial (RX.assign) ?_
    refine JL.nil ?_
    refine J.block ?_
    refine J.loop (ι := Prod Nat (Prod (List Int) (Prod (List Int) (Prod (List (Nat × Nat)) (Prod (Option Addr) (Prod Nat Seg)))))) (S := fun z => [(9, .int .i64 ((z.1 : Nat) : Int)), (8, .slice z.2.2.2.2.1 z.1 z.2.2.2.2.2.1)]) (Φ := fun z w => z.1 ≤ n ∧ Parts z.2.1 z.2.2.1 z.2.2.2.1 n z.1 ∧ OwnSl 27 1 z.2.2.2.2.1 z.1 z.2.2.2.2.2.1 (cxs z.2.2.2.1) z.2.2.2.2.2.2 ∧ Hp w0 w (z.2.2.2.2.2.2 :: [(br, cel (i64sV z.2.1) 2)] :: [(bi, cel (i64sV z.2.2.1) 2)] :: [(b3, cel (i64sV [1, 2, 4]) 3)] :: F)) (μ := fun z => n - z.1) (C := [(0, _), (5, _), (6, _), (7, _)]) (0, List.replicate n 0, List.replicate n 0, [], some ⟨b8, 0, none⟩, 0, [(b8, cel [] 27)]) ⟨rfl, rfl, rfl, rfl, trivial⟩ ⟨rfl, rfl, trivial⟩ ?_ ?_
    · exact ⟨by simp, Parts.zero n, OwnSl.empty, H⟩
    clear H
    rintro ⟨j, re, im, fs, q, c, sl⟩ ρ w ⟨hj, hp, ho, H⟩ IH
    simp only at hj hp ho H
    dsimp only
    refine J.seq ?_
    refine J.seq ?_
    refine J.region ?_
    refine JL.go trivial (RX.movev (v := Value.int _ _) rfl) ?_
    refine JL.go trivial (RX.movev (v := Value.int _ _) rfl) ?_
    refine JL.go trivial (RX.lt rfl rfl) ?_
    refine JL.nil ?_
    refine J.cond_d rfl (fun hlt => ?_) (fun hlt => ?_)
    · skip
      have hjn : j < n := by omega
      refine J.skip ?_
      refine J.seq ?_
      refine J.block ?_
      refine J.seq ?_
      refine J.seq ?_
      refine J.region ?_
      refine JL.go trivial (RX.movev (v := Value.int _ _) rfl) ?_
      refine JL.go trivial (RX.mul rfl rfl (wi (n := 2 * j) (by omega) (by omega))) ?_
      refine JL.go trivial (RX.add rfl rfl (wi (n := 2 * j + 1) (by omega) (by omega))) ?_
      refine JL.go trivial (RX.movev (v := Value.slice _ _ _) rfl) ?_
      refine JL.go trivial (RX.len_slice rfl (by rw [sl22]; rfl) rfl) ?_
      refine JL.go trivial (RX.lt rfl rfl) ?_
      refine JL.nil ?_
      refine J.join (ι := List Int × List Int) (fun z => []) (fun z w => Parts z.1 z.2 fs n j ∧ Hp w0 w (sl :: [(br, cel (i64sV z.1) 2)] :: [(bi, cel (i64sV z.2) 2)] :: [(b3, cel (i64sV [1, 2, 4]) 3)] :: F)) [(0, _), (5, _), (6, _), (7, _), (8, _), (9, _)] ⟨rfl, rfl, rfl, rfl, rfl, rfl, trivial⟩ ?_ ?_
      rotate_left
      · skip
        intro k2 hk2
        refine J.cond_d rfl (fun h2 => ?_) (fun h2 => ?_)
        · skip
          have hrl := hp.1
          have hil := hp.2.1
          obtain ⟨x0, hx0⟩ : ∃ x, xs[2 * j]? = some x := ⟨_, List.getElem?_eq_getElem (by omega)⟩
          obtain ⟨x1, hx1⟩ : ∃ x, xs[2 * j + 1]? = some x := ⟨_, List.getElem?_eq_getElem (by omega)⟩
          obtain ⟨pb, po, rfl, hpp⟩ := hs.some (by rw [i64sV_len]; omega)
          refine J.any hmix fun w hs => ?_
          replace H := H.same hs; clear hs
          refine JA.take 0 (listed' := [true, false, false, false, false, false, false, false, false, false, false, false, false, false, false, false, false, false, false, false, false]) rfl (by kernel_rfl) (by kernel_rfl) (by kernel_rfl) rfl trivial (fun w => RX.movev (v := Value.slice _ _ _) rfl) ?_
          refine JA.take 1 (listed' := [true, true, false, false, false, false, false, false, false, false, false, false, false, false, false, false, false, false, false, false, false]) rfl (by kernel_rfl) (by kernel_rfl) (by kernel_rfl) rfl trivial (fun w => RX.movev (v := Value.int _ _) rfl) ?_
          refine JA.take 2 (listed' := [true, true, true, false, false, false, false, false, false, false, false, false, false, false, false, false, false, false, false, false, false]) rfl (by kernel_rfl) (by kernel_rfl) (by kernel_rfl) rfl trivial (fun w => RX.movev (v := Value.slice _ _ _) rfl) ?_
          refine JA.take 3 (listed' := [true, true, true, true, false, false, false, false, false, false, false, false, false, false, false, false, false, false, false, false, false]) rfl (by kernel_rfl) (by kernel_rfl) (by kernel_rfl) rfl trivial (fun w => RX.movev (v := Value.int _ _) rfl) ?_
          refine JA.take 4 (listed' := [true, true, true, true, true, false, false, false, false, false, false, false, false, false, false, false, false, false, false, false, false]) rfl (by kernel_rfl) (by kernel_rfl) (by kernel_rfl) rfl trivial (fun w => RX.movev (v := Value.slice _ _ _) rfl) ?_
          refine JA.take 5 (listed' := [true, true, true, true, true, true, false, false, false, false, false, false, false, false, false, false, false, false, false, false, false]) rfl (by kernel_rfl) (by kernel_rfl) (by kernel_rfl) rfl trivial (fun w => RX.movev (v := Value.int _ _) rfl) ?_
          refine JA.take 6 (listed' := [true, true, true, true, true, true, true, false, false, false, false, false, false, false, false, false, false, false, false, false, false]) rfl (by kernel_rfl) (by kernel_rfl) (by kernel_rfl) rfl trivial (fun w => RX.mul rfl rfl (wi (n := 2 * j) (by omega) (by omega))) ?_
          refine JA.take 7 (listed' := [true, true, true, true, true, true, true, true, false, false, false, false, false, false, false, false, false, false, false, false, false]) rfl (by kernel_rfl) (by kernel_rfl) (by kernel_rfl) rfl trivial (fun w => RX.indexAddr rfl rfl sl22 (by omega) (by omega) (o' := po + 2 * j) (by omega)) ?_
          refine JA.take 10 (listed' := [true, true, true, true, true, true, true, true, false, false, true, false, false, false, false, false, false, false, false, false, false]) rfl (by kernel_rfl) (by kernel_rfl) (by kernel_rfl) rfl trivial (fun w => RX.movev (v := Value.slice _ _ _) rfl) ?_
          refine JA.take 11 (listed' := [true, true, true, true, true, true, true, true, false, false, true, true, false, false, false, false, false, false, false, false, false]) rfl (by kernel_rfl) (by kernel_rfl) (by kernel_rfl) rfl trivial (fun w => RX.movev (v := Value.int _ _) rfl) ?_
          refine JA.take 12 (listed' := [true, true, true, true, true, true, true, true, false, false, true, true, true, false, false, false, false, false, false, false, false]) rfl (by kernel_rfl) (by kernel_rfl) (by kernel_rfl) rfl trivial (fun w => RX.mul rfl rfl (wi (n := 2 * j) (by omega) (by omega))) ?_
          refine JA.take 13 (listed' := [true, true, true, true, true, true, true, true, false, false, true, true, true, true, false, false, false, false, false, false, false]) rfl (by kernel_rfl) (by kernel_rfl) (by kernel_rfl) rfl trivial (fun w => RX.add rfl rfl (wi (n := 2 * j + 1) (by omega) (by omega))) ?_
          refine JA.take 14 (listed' := [true, true, true, true, true, true, true, true, false, false, true, true, true, true, true, false, false, false, false, false, false]) rfl (by kernel_rfl) (by kernel_rfl) (by kernel_rfl) rfl trivial (fun w => RX.indexAddr rfl rfl sl22 (by omega) (by omega) (o' := po + (2 * j + 1)) (by omega)) ?_
          refine JA.all [8, 15] (by kernel_rfl) (by decide) ?_
          refine ⟨?_, ?_⟩
          · skip
            refine JO.go (listed' := [true, true, true, true, true, true, true, true, true, false, true, true, true, true, true, false, false, false, false, false, false]) rfl rfl trivial (RX.loadS H (SlAt.cons (SlAt.cons (SlAt.cons (SlAt.cons hs)))) rfl (j := 2 * j) rfl (v := .int .i64 x0) (i64sV_get hx0) one2) ?_
            refine JA.take 9 (listed' := [true, true, true, true, true, true, true, true, true, true, true, true, true, true, true, false, false, false, false, false, false]) rfl (by kernel_rfl) (by kernel_rfl) (by kernel_rfl) rfl trivial (fun w => RX.rem rfl rfl (by decide) (r := x0.tmod 1099511627776) rfl) ?_
            refine JA.all [15] (by kernel_rfl) (by decide) ?_
            refine JO.go (listed' := [true, true, true, true, true, true, true, true, true, true, true, true, true, true, true, true, false, false, false, false, false]) rfl rfl trivial (RX.loadS H (SlAt.cons (SlAt.cons (SlAt.cons (SlAt.cons hs)))) rfl (j := 2 * j + 1) rfl (v := .int .i64 x1) (i64sV_get hx1) one2) ?_
            refine JA.take 16 (listed' := [true, true, true, true, true, true, true, true, true, true, true, true, true, true, true, true, true, false, false, false, false]) rfl (by kernel_rfl) (by kernel_rfl) (by kernel_rfl) rfl trivial (fun w => RX.rem rfl rfl (by decide) (r := x1.tmod 1099511627776) rfl) ?_
            refine JA.take 17 (listed' := [true, true, true, true, true, true, true, true, true, true, true, true, true, true, true, true, true, true, false, false, false]) rfl (by kernel_rfl) (by kernel_rfl) (by kernel_rfl) rfl trivial (fun w => RX.indexAddr rfl rfl sl22 (by omega) (by omega) (o' := j) (by omega)) ?_
            refine JA.all [18] (by kernel_rfl) (by decide) ?_
            refine JO.does (listed' := [true, true, true, true, true, true, true, true, true, true, true, true, true, true, true, true, true, true, true, false, false]) rfl rfl trivial (EX.store (v := Value.int _ _) H rfl rfl (i := 1) rfl rfl (by rw [i64sV_len]; omega) sz2 rfl rfl) ?_
            rintro _ w H
            refine JA.take 19 (listed' := [true, true, true, true, true, true, true, true, true, true, true, true, true, true, true, true, true, true, true, true, false]) rfl (by kernel_rfl) (by kernel_rfl) (by kernel_rfl) rfl trivial (fun w => RX.indexAddr rfl rfl sl22 (by omega) (by omega) (o' := j) (by omega)) ?_
            refine JA.all [20] (by kernel_rfl) (by decide) ?_
            refine JO.does (listed' := [true, true, true, true, true, true, true, true, true, true, true, true, true, true, true, true, true, true, true, true, true]) rfl rfl trivial (EX.store (v := Value.int _ _) H rfl rfl (i := 2) rfl rfl (by rw [i64sV_len]; omega) sz2 rfl rfl) ?_
            rintro _ w H
            refine JA.done (by kernel_rfl) ?_
            first
            | exact hk2 (re, im) _ _ ⟨rfl, rfl, rfl, rfl, rfl, rfl, trivial⟩ trivial ⟨hp, H⟩
            | (simp only [List.set_cons_succ, List.set_cons_zero] at H
               rw [← i64sV_set, ← i64sV_set] at H
               exact hk2 (re.set j (x0.tmod 1099511627776), im.set j (x1.tmod 1099511627776)) _ _ ⟨rfl, rfl, rfl, rfl, rfl, rfl, trivial⟩ trivial ⟨hp.put (tmod_small x0) (tmod_small x1), H⟩)
          · skip
            refine JO.go (listed' := [true, true, true, true, true, true, true, true, false, false, true, true, true, true, true, true, false, false, false, false, false]) rfl rfl trivial (RX.loadS H (SlAt.cons (SlAt.cons (SlAt.cons (SlAt.cons hs)))) rfl (j := 2 * j + 1) rfl (v := .int .i64 x1) (i64sV_get hx1) one2) ?_
            refine JA.take 16 (listed' := [true, true, true, true, true, true, true, true, false, false, true, true, true, true, true, true, true, false, false, false, false]) rfl (by kernel_rfl) (by kernel_rfl) (by kernel_rfl) rfl trivial (fun w => RX.rem rfl rfl (by decide) (r := x1.tmod 1099511627776) rfl) ?_
            refine JA.all [8] (by kernel_rfl) (by decide) ?_
            refine JO.go (listed' := [true, true, true, true, true, true, true, true, true, false, true, true, true, true, true, true, true, false, false, false, false]) rfl rfl trivial (RX.loadS H (SlAt.cons (SlAt.cons (SlAt.cons (SlAt.cons hs)))) rfl (j := 2 * j) rfl (v := .int .i64 x0) (i64sV_get hx0) one2) ?_
            refine JA.take 9 (listed' := [true, true, true, true, true, true, true, true, true, true, true, true, true, true, true, true, true, false, false, false, false]) rfl (by kernel_rfl) (by kernel_rfl) (by kernel_rfl) rfl trivial (fun w => RX.rem rfl rfl (by decide) (r := x0.tmod 1099511627776) rfl) ?_
            refine JA.take 17 (listed' := [true, true, true, true, true, true, true, true, true, true, true, true, true, true, true, true, true, true, false, false, false]) rfl (by kernel_rfl) (by kernel_rfl) (by kernel_rfl) rfl trivial (fun w => RX.indexAddr rfl rfl sl22 (by omega) (by omega) (o' := j) (by omega)) ?_
            refine JA.all [18] (by kernel_rfl) (by decide) ?_
            refine JO.does (listed' := [true, true, true, true, true, true, true, true, true, true, true, true, true, true, true, true, true, true, true, false, false]) rfl rfl trivial (EX.store (v := Value.int _ _) H rfl rfl (i := 1) rfl rfl (by rw [i64sV_len]; omega) sz2 rfl rfl) ?_
            rintro _ w H
            refine JA.take 19 (listed' := [true, true, true, true, true, true, true, true, true, true, true, true, true, true, true, true, true, true, true, true, false]) rfl (by kernel_rfl) (by kernel_rfl) (by kernel_rfl) rfl trivial (fun w => RX.indexAddr rfl rfl sl22 (by omega) (by omega) (o' := j) (by omega)) ?_
            refine JA.all [20] (by kernel_rfl) (by decide) ?_
            refine JO.does (listed' := [true, true, true, true, true, true, true, true, true, true, true, true, true, true, true, true, true, true, true, true, true]) rfl rfl trivial (EX.store (v := Value.int _ _) H rfl rfl (i := 2) rfl rfl (by rw [i64sV_len]; omega) sz2 rfl rfl) ?_
            rintro _ w H
            refine JA.done (by kernel_rfl) ?_
            first
            | exact hk2 (re, im) _ _ ⟨rfl, rfl, rfl, rfl, rfl, rfl, trivial⟩ trivial ⟨hp, H⟩
            | (simp only [List.set_cons_succ, List.set_cons_zero] at H
               rw [← i64sV_set, ← i64sV_set] at H
               exact hk2 (re.set j (x0.tmod 1099511627776), im.set j (x1.tmod 1099511627776)) _ _ ⟨rfl, rfl, rfl, rfl, rfl, rfl, trivial⟩ trivial ⟨hp.put (tmod_small x0) (tmod_small x1), H⟩)
        · skip
          refine J.skip ?_
          first
          | exact hk2 (re, im) _ _ ⟨rfl, rfl, rfl, rfl, rfl, rfl, trivial⟩ trivial ⟨hp, H⟩
          | (simp only [List.set_cons_succ, List.set_cons_zero] at H
             rw [← i64sV_set, ← i64sV_set] at H
             exact hk2 (re.set j (x0.tmod 1099511627776), im.set j (x1.tmod 1099511627776)) _ _ ⟨rfl, rfl, rfl, rfl, rfl, rfl, trivial⟩ trivial ⟨hp.put (tmod_small x0) (tmod_small x1), H⟩)
      · skip
        clear H hp
        rintro ⟨re, im⟩ ρ w ⟨hp, H⟩
        simp only at hp H
        have hrl := hp.1
        have hil := hp.2.1
        obtain ⟨a, ha⟩ : ∃ a, re[j]? = some a := ⟨_, List.getElem?_eq_getElem (by omega)⟩
        obtain ⟨b, hb⟩ : ∃ b, im[j]? = some b := ⟨_, List.getElem?_eq_getElem (by omega)⟩
        have hle9 := ho.le
        try dsimp only
        refine J.any hmix fun w hs => ?_
        replace H := H.same hs; clear hs
        refine JA.take 0 (listed' := [true, false, false, false, false, false, false, false, false, false, false, false, false, false, false]) rfl (by kernel_rfl) (by kernel_rfl) (by kernel_rfl) rfl trivial (fun w => RX.movev (v := Value.slice _ _ _) rfl) ?_
        refine JA.stage (listed := [true, false, false, false, false, false, false, false, false, false, false, false, false, false, false]) 12 [1, 2, 3, 4, 5, 6, 7, 8, 9, 10, 11] H (by kernel_rfl) rfl rfl ?_
        refine JI.go rfl trivial (fun w H => RX.movev (v := Value.slice _ _ _) rfl) ?_
        refine JI.go rfl trivial (fun w H => RX.movev (v := Value.int _ _) rfl) ?_
        refine JI.go rfl trivial (fun w H => RX.indexAddr rfl rfl sl22 (by omega) (by omega) (o' := j) (by omega)) ?_
        refine JI.go rfl trivial (fun w H => RX.load H rfl (i := 1) (v := .int .i64 a) rfl (i64sV_get ha) one2) ?_
        refine JI.go rfl trivial (fun w H => RX.i2f rfl ud2 ud28) ?_
        refine JI.go rfl trivial (fun w H => RX.movev (v := Value.slice _ _ _) rfl) ?_
        refine JI.go rfl trivial (fun w H => RX.movev (v := Value.int _ _) rfl) ?_
        refine JI.go rfl trivial (fun w H => RX.indexAddr rfl rfl sl22 (by omega) (by omega) (o' := j) (by omega)) ?_
        refine JI.go rfl trivial (fun w H => RX.load H rfl (i := 2) (v := .int .i64 b) rfl (i64sV_get hb) one2) ?_
        refine JI.go rfl trivial (fun w H => RX.i2f rfl ud2 ud28) ?_
        refine JI.go rfl trivial (fun w H => RX.complex rfl rfl) ?_
        refine JI.nil fun w H => ?_
        refine JL.does trivial (EX.buildSlice1 (v := .complex .f64 (fint a) (fint b)) H elCx rfl rfl) ?_
        rintro _ w ⟨bz, rfl, H⟩
        refine JL.does trivial (EX.append (ys := cxs [(fint a, fint b)]) (L' := fun s' => [(bz, cel (cxs [(fint a, fint b)]) 27)] :: s' :: [(br, cel (i64sV re) 2)] :: [(bi, cel (i64sV im) 2)] :: [(b3, cel (i64sV [1, 2, 4]) 3)] :: F) H elCx rfl rfl (i := 1) rfl ho (SlAt.here rfl) rfl (cxs_cell _) (by decide) (by omega) (by omega) (fun _ => rfl)) ?_
        rintro _ w ⟨q2, c2, s2, rfl, ho2, H⟩
        replace H := H.drop
        rw [← cxs_app] at ho2
        refine JL.go trivial (RX.assignv (v := Value.slice _ _ _) rfl) ?_
        refine JL.nil ?_
        refine J.inBlock ?_
        refine J.region ?_
        refine JL.go trivial (RX.movev (v := Value.int _ _) rfl) ?_
        refine JL.go trivial (RX.add rfl rfl (wi (n := j + 1) (by omega) (by omega))) ?_
        refine JL.go trivial (RX.assignv (v := Value.int _ _) rfl) ?_
        refine JL.nil ?_
        have hfa : Zc (fint a, fint b) (a, b) := by
          have h1 := hp.2.2.2.1 a (List.mem_of_getElem? ha)
          have h2 := hp.2.2.2.2.1 b (List.mem_of_getElem? hb)
          exact ⟨isZ_fint (by omega), isZ_fint (by omega)⟩
        exact IH (j + 1, re, im, fs ++ [(fint a, fint b)], q2, c2, s2) _ _ (by simp only; omega) ⟨rfl, rfl, rfl, rfl, trivial⟩ ⟨rfl, rfl, trivial⟩ ⟨by simp only; omega, hp.same hjn ha hb hfa, ho2, H⟩
    · skip
      have H0 := H
      obtain rfl : j = n := by omega
      have H := H0
      clear IH
      have hrl := hp.1
      have hil := hp.2.1
      have hre := hp.2.2.2.1
      have him := hp.2.2.2.2.1
      have hX := inX_inter hre him
      obtain ⟨e0, eA, eB⟩ := small_ok (re := re) (im := im) (by rw [hrl]; exact hn) (by rw [hrl, hil]) hre him
      have h64 : ∀ {l : List Int}, Le40 l → i64all l := fun h x hx => by have := h x hx; unfold i64in; omega
      refine J.exit rfl ?_
      refine J.seq ?_
      refine J.region ?_
      refine JL.go trivial (RX.movev (v := Value.slice _ _ _) rfl) ?_
      refine JL.does trivial (EX.call rfl cl5 rfl ((dFwd_b (cs := unitC j) (X := inter re im) H hn hX ho.slAt (hp.rel hn) hp.2.2.1 (fun k hk => by obtain ⟨c, _, h⟩ := dsum_want hn hk; exact ⟨c, h⟩)))) ?_
      rintro _ w ⟨by_, gs, rfl, hgl, hgk, H⟩
      refine JL.go trivial (RX.movev (v := .tuple _) rfl) ?_
      refine JL.go trivial (RX.extract rfl rfl) ?_
      refine JL.go trivial (RX.extract (v := .nilIface) rfl rfl) ?_
      refine JL.go trivial (RX.assignv (v := Value.slice _ _ _) rfl) ?_
      refine JL.go trivial (RX.assignv (v := .nilIface) rfl) ?_
      refine JL.nil ?_
      refine J.seq ?_
      refine J.region ?_
      refine JL.go trivial (RX.movev (v := Value.slice _ _ _) rfl) ?_
      refine JL.go trivial (RX.movev (v := Value.slice _ _ _) rfl) ?_
      refine JL.does trivial (EX.call rfl cl6 rfl ((by have h := Small_b (re := re) (im := im) (cr := j) (ci := j) H hE.cons.cons.cons.cons.cons (SlAt.cons (SlAt.cons (SlAt.here List.take_length))) (SlAt.cons (SlAt.cons (SlAt.cons (SlAt.here List.take_length)))) (h64 hre) (h64 him) (by omega) (by omega); rw [hrl, hil, e0, eA, eB] at h; exact h))) ?_
      rintro _ w ⟨q1, q2, c1, c2, s1, s2, rfl, ho1, ho2, H⟩
      refine JL.go trivial (RX.movev (v := .tuple _) rfl) ?_
      refine JL.go trivial (RX.extract rfl rfl) ?_
      refine JL.go trivial (RX.extract rfl rfl) ?_
      refine JL.go trivial (RX.extract (v := .nilIface) rfl rfl) ?_
      refine JL.go trivial (RX.assignv (v := Value.slice _ _ _) rfl) ?_
      refine JL.go trivial (RX.assignv (v := Value.slice _ _ _) rfl) ?_
      refine JL.go trivial (RX.assignv (v := .nilIface) rfl) ?_
      refine JL.nil ?_
      refine J.seq ?_
      refine J.seq ?_
      have hAl : (smA0 re im).length = j := by rw [← hrl]; simp [smA0]
      have hBl : (smB0 re im).length = j := by rw [← hrl]; simp [smB0]
      refine J.region ?_
      refine JL.go trivial (RX.movev (v := .nilIface) rfl) ?_
      refine JL.go trivial (RX.ifnil_neq (v := .nilIface) rfl rfl rfl if30) ?_
      refine JL.go trivial (RX.movev (v := Value.bool _) rfl) ?_
      refine JL.go ⟨_, rfl, rfl⟩ (RX.movev (v := .nilIface) rfl) ?_
      refine JL.go ⟨_, rfl, rfl⟩ (RX.ifnil_neq (v := .nilIface) rfl rfl rfl if30) ?_
      refine JL.go trivial (RX.pick_f rfl rfl) ?_
      refine JL.go trivial (RX.movev (v := Value.bool _) rfl) ?_
      refine JL.go ⟨_, rfl, rfl⟩ (RX.movev (v := Value.slice _ _ _) rfl) ?_
      refine JL.go ⟨_, rfl, rfl⟩ (RX.len_slice rfl (by rw [sl26]; rfl) rfl) ?_
      refine JL.go ⟨_, rfl, rfl⟩ (RX.movev (v := Value.int _ _) rfl) ?_
      refine JL.go ⟨_, rfl, rfl⟩ (RX.ne rfl rfl) ?_
      refine JL.go trivial (RX.pick_f rfl rfl) ?_
      refine JL.go trivial (RX.movev (v := Value.bool _) rfl) ?_
      refine JL.go ⟨_, rfl, (decide_eq_false (fun h => h (by omega)))⟩ (RX.movev (v := Value.slice _ _ _) rfl) ?_
      refine JL.go ⟨_, rfl, (decide_eq_false (fun h => h (by omega)))⟩ (RX.len_slice rfl (by rw [sl22]; rfl) rfl) ?_
      refine JL.go ⟨_, rfl, (decide_eq_false (fun h => h (by omega)))⟩ (RX.movev (v := Value.int _ _) rfl) ?_
      refine JL.go ⟨_, rfl, (decide_eq_false (fun h => h (by omega)))⟩ (RX.ne rfl rfl) ?_
      refine JL.go trivial (RX.pick_f rfl (decide_eq_false (fun h => h (by omega)))) ?_
      refine JL.go trivial (RX.movev (v := Value.bool _) rfl) ?_
      refine JL.go ⟨_, rfl, (decide_eq_false (fun h => h (by omega)))⟩ (RX.movev (v := Value.slice _ _ _) rfl) ?_
      refine JL.go ⟨_, rfl, (decide_eq_false (fun h => h (by omega)))⟩ (RX.len_slice rfl (by rw [sl22]; rfl) rfl) ?_
      refine JL.go ⟨_, rfl, (decide_eq_false (fun h => h (by omega)))⟩ (RX.movev (v := Value.int _ _) rfl) ?_
      refine JL.go ⟨_, rfl, (decide_eq_false (fun h => h (by omega)))⟩ (RX.ne rfl rfl) ?_
      refine JL.go trivial (RX.pick_f rfl (decide_eq_false (fun h => h (by omega)))) ?_
      refine JL.nil ?_
      refine J.cond_f rfl (decide_eq_false (fun h => h (by omega))) ?_
      refine J.skip ?_
      refine J.seq ?_
      refine J.seq ?_
      have x1 := ho1
      have x2 := ho2
      obtain ⟨g1, l1, rfl, rfl, _⟩ := x1.ptr (by omega)
      obtain ⟨g2, l2, rfl, rfl, _⟩ := x2.ptr (by omega)
      have hc1 := ho1.le
      have hc2 := ho2.le
      refine J.region ?_
      refine JL.go trivial (RX.movev (v := Value.slice _ _ _) rfl) ?_
      refine JL.go trivial (RX.len_slice rfl (by rw [sl26]; rfl) rfl) ?_
      refine JL.go trivial (RX.move) ?_
      refine JL.nil ?_
      refine J.block ?_
      refine J.loop (ι := Nat) (S := fun k => [(111, .int .i64 ((k : Nat) : Int))]) (Φ := fun k w => k ≤ j ∧ Hp w0 w ([(g2, cel l2 2)] :: [(g1, cel l1 2)] :: [(by_, cel (cxs gs) 27)] :: sl :: [(br, cel (i64sV re) 2)] :: [(bi, cel (i64sV im) 2)] :: [(b3, cel (i64sV [1, 2, 4]) 3)] :: F)) (μ := fun k => j - k) (C := [(10, _), (12, _), (13, _), (110, _)]) 0 ⟨rfl, rfl, rfl, rfl, trivial⟩ ⟨rfl, trivial⟩ ?_ ?_
      · exact ⟨by omega, H⟩
      clear H
      rintro k ρ w ⟨hk, H⟩ IH
      refine J.seq ?_
      refine J.region ?_
      refine JL.go trivial (RX.lt rfl rfl) ?_
      refine JL.nil ?_
      refine J.seq ?_
      refine J.cond_d rfl (fun hlt2 => ?_) (fun hlt2 => ?_)
      · skip
        have hkn : k < j := by omega
        obtain ⟨r, g, hd1, hg, hz⟩ := hgk k hkn
        obtain ⟨c, hw, hd2⟩ := dsum_want hn hkn
        rw [hd1] at hd2
        obtain rfl := Option.some.inj hd2
        have hev := dft_small (re := re) (im := im) (by rw [hrl, hil]) (by rw [hrl]; exact hn) (k := k) (by rw [hrl]; exact hw)
        rw [hev] at hz
        obtain ⟨hb1, hb2⟩ := sm_bound hre him k (by omega)
        have e1 := eq_beq hz.1 (by simp only; omega)
        have e2 := eq_beq hz.2 (by simp only; omega)
        simp only at e1 e2
        refine J.skip ?_
        refine J.seq ?_
        refine J.block ?_
        refine J.seq ?_
        refine J.region ?_
        refine JL.go trivial (RX.movev (v := Value.int _ _) rfl) ?_
        refine JL.go trivial (RX.assignv (v := Value.int _ _) rfl) ?_
        refine JL.nil ?_
        refine J.seq ?_
        refine J.quietH H hmix (by kernel_rfl) ?_
        refine JQ.go trivial (fun w H => RX.movev (v := Value.slice _ _ _) rfl) ?_
        refine JQ.go trivial (fun w H => RX.movev (v := Value.int _ _) rfl) ?_
        refine JQ.go trivial (fun w H => RX.indexAddr rfl rfl sl26 (by omega) (by omega) (o' := k) (by omega)) ?_
        refine JQ.go trivial (fun w H => RX.load H rfl (i := 2) (v := .complex .f64 g.1 g.2) rfl (cxs_get hg) one27) ?_
        refine JQ.go trivial (fun w H => RX.movev (v := Value.slice _ _ _) rfl) ?_
        refine JQ.go trivial (fun w H => RX.movev (v := Value.int _ _) rfl) ?_
        refine JQ.go trivial (fun w H => RX.indexAddr rfl rfl sl22 (by omega) (by omega) (o' := k) (by omega)) ?_
        refine JQ.go trivial (fun w H => RX.loadS H (SlAt.cons ho1.slAt) rfl (j := k) (by omega) (v := .int .i64 (smU re im k re.length)) (i64sV_get (smA0_get (by omega))) one2) ?_
        refine JQ.go trivial (fun w H => RX.i2f rfl ud2 ud28) ?_
        refine JQ.go trivial (fun w H => RX.movev (v := Value.slice _ _ _) rfl) ?_
        refine JQ.go trivial (fun w H => RX.movev (v := Value.int _ _) rfl) ?_
        refine JQ.go trivial (fun w H => RX.indexAddr rfl rfl sl22 (by omega) (by omega) (o' := k) (by omega)) ?_
        refine JQ.go trivial (fun w H => RX.loadS H ho2.slAt rfl (j := k) (by omega) (v := .int .i64 (smV re im k re.length)) (i64sV_get (smB0_get (by omega))) one2) ?_
        refine JQ.go trivial (fun w H => RX.i2f rfl ud2 ud28) ?_
        refine JQ.go trivial (fun w H => RX.complex rfl rfl) ?_
        refine JQ.go trivial (fun w H => RX.cne rfl rfl) ?_
        refine JQ.nil fun w H => ?_
        refine J.cond_f rfl (by rw [e1, e2]; rfl) ?_
        refine J.skip ?_
        refine J.inBlock ?_
        refine J.region ?_
        refine JL.go trivial (RX.add rfl rfl (wi (n := k + 1) (by omega) (by omega))) ?_
        refine JL.go trivial (RX.movev (v := Value.int _ _) rfl) ?_
        refine JL.nil ?_
        exact IH (k + 1) _ _ (by omega) ⟨rfl, rfl, rfl, rfl, trivial⟩ ⟨rfl, trivial⟩ ⟨by omega, H⟩
      · skip
        refine J.exit rfl ?_
        refine J.seq ?_
        refine J.region ?_
        refine JL.go trivial (RX.assign) ?_
        refine JL.nil ?_
        refine J.ret1 (v := Value.bool _) Tryz.func3 rfl rfl ?_
        exact ⟨_, rfl, rfl, H.drop.drop.drop.drop.drop.drop.drop⟩
end Cc
end Go.Proofs.YtahjlcglidgadaaGreatDoor
