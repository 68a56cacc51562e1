/- Depths; products of leaves. -/
import Derived.Test.YtinbeaaloailnaaDoorIt
namespace Go.Proofs.YtinbeaaloailnaaDoor
open Go Go.Eng
set_option maxRecDepth 100000
set_option linter.unusedVariables false
set_option linter.unusedSimpArgs false
theorem cl28 : callable Tryd.prog 28 = true := by kernel_rfl
theorem cl30 : callable Tryd.prog 30 = true := by kernel_rfl

section
variable {P : Program} {w : World} {ρ : Operand → Value} {d : Option Tmp} {x y : Operand} {ty : TypeId} {pos : String} {af : Array Edge} {g : Option (Nat × Bool)} {k : IntKind} {a b r : Int}
theorem RX.max_ {t t' : TypeId} (hx : ρ x = .int k a) (hy : ρ y = .int k b) (hr : max a b = r) :
    Runs P ρ ⟨d, .call { callee := .builtin .max, args := #[x, y], argTypes := #[t, t'] }, ty, pos, af, g⟩ w (.int k r) := by
  subst hr
  have e : (if b > a then b else a) = max a b := by split <;> omega
  unfold Runs
  simp [execOp, resolve, invoke, builtin, Builtin.max_, Builtin.max2, hx, hy, e]
end
mutual
def Tr.blu : Tr → Bool
  | .node k _ ks => bluL ks || decide (k = 4)
def bluL : List Tr → Bool
  | [] => false
  | t :: ts => t.blu || bluL ts
end
theorem bluL_app : ∀ a b : List Tr, bluL (a ++ b) = (bluL a || bluL b)
  | [], b => by rw [List.nil_append, bluL, Bool.false_or]
  | x :: a, b => by rw [List.cons_append, bluL, bluL, bluL_app, Bool.or_assoc]
theorem bluL_take {ks : List Tr} {i : Nat} {t : Tr} (h : ks[i]? = some t) : bluL (ks.take (i + 1)) = (bluL (ks.take i) || t.blu) := by
  rw [take_get h, bluL_app, bluL, bluL, Bool.or_false]
theorem bluL_get {ks : List Tr} {i : Nat} {t : Tr} (h : ks[i]? = some t) (hb : t.blu = true) : bluL ks = true := by
  have e : ks = ks.take (i + 1) ++ ks.drop (i + 1) := (List.take_append_drop _ _).symm
  rw [e, bluL_app, bluL_take h, hb]
  simp
def Tr.N : Tr → Int
  | .node _ n _ => n
def prodN : List Tr → Int
  | [] => 1
  | t :: ts => t.N * prodN ts
theorem prodN_app : ∀ a b : List Tr, prodN (a ++ b) = prodN a * prodN b
  | [], b => by rw [List.nil_append, prodN, Int.one_mul]
  | x :: a, b => by rw [List.cons_append, prodN, prodN, prodN_app, Int.mul_assoc]
theorem prodN_take {ls : List Tr} {i : Nat} {t : Tr} (h : ls[i]? = some t) : prodN (ls.take (i + 1)) = prodN (ls.take i) * t.N := by
  rw [take_get h, prodN_app, prodN, prodN, Int.mul_one]
theorem prodN_pos : ∀ {ls : List Tr}, (∀ x ∈ ls, 1 ≤ x.N) → 1 ≤ prodN ls
  | [], _ => by rw [prodN]; exact Int.le_refl _
  | x :: ls, h => by
    rw [prodN]
    have h1 := h x List.mem_cons_self
    have h2 := prodN_pos (ls := ls) (fun y hy => h y (List.mem_cons_of_mem _ hy))
    have := Int.mul_le_mul h1 h2 (by decide) (by omega)
    simpa using this
theorem prodN_le {ls : List Tr} (h : ∀ x ∈ ls, 1 ≤ x.N) (i : Nat) : 1 ≤ prodN (ls.take i) ∧ prodN (ls.take i) ≤ prodN ls := by
  have h1 := prodN_pos (ls := ls.take i) (fun x hx => h x (List.mem_of_mem_take hx))
  have h2 := prodN_pos (ls := ls.drop i) (fun x hx => h x (List.mem_of_mem_drop hx))
  refine ⟨h1, ?_⟩
  have e : prodN ls = prodN (ls.take i) * prodN (ls.drop i) := by rw [← prodN_app, List.take_append_drop]
  rw [e]
  have := Int.mul_le_mul_of_nonneg_left h2 (show 0 ≤ prodN (ls.take i) by omega)
  simpa using this
/-- A tree whose document's length is not 0: its shape. -/
theorem len_shape {k n : Int} {ks : List Tr} (h : len (.node k n ks) ≠ 0) :
    ((k = 1 ∨ k = 2) ∧ ks = [] ∧ len (.node k n ks) = n ∧ 1 ≤ n) ∨ (k = 3 ∧ ∃ a b, ks = [a, b] ∧ 2 ≤ len a ∧ 2 ≤ len b ∧ len (.node k n ks) = len a * len b) ∨ (k = 4 ∧ 2 ≤ n ∧ ∃ a, ks = [a] ∧ len (.node k n ks) = n ∧ 2 * n - 1 ≤ len a) := by
  by_cases h1 : k = 1
  · rw [lenA h1] at h ⊢
    split at h
    · rename_i hc
      rw [if_pos hc]
      exact .inl ⟨.inl h1, List.eq_nil_of_length_eq_zero hc.2.2, rfl, hc.1⟩
    · exact absurd rfl h
  · by_cases h2 : k = 2
    · rw [lenB h2] at h ⊢
      split at h
      · rename_i hc
        rw [if_pos hc]
        exact .inl ⟨.inr h2, List.eq_nil_of_length_eq_zero hc.2.2, rfl, by omega⟩
      · exact absurd rfl h
    · by_cases h3 : k = 3
      · by_cases hc : n ≠ 0 ∨ ks.length ≠ 2
        · exact absurd (lenC0 h3 hc) h
        · obtain ⟨a, b, rfl⟩ := two_of (show ks.length = 2 by omega)
          obtain rfl : n = 0 := by omega
          subst h3
          rw [lenCC] at h ⊢
          split at h
          · rename_i hd
            rw [if_pos hd]
            exact .inr (.inl ⟨rfl, a, b, rfl, hd.1, hd.2.1, rfl⟩)
          · exact absurd rfl h
      · by_cases h4 : k = 4
        · by_cases hc : n < 2 ∨ 8192 < n ∨ ks.length ≠ 1
          · exact absurd (lenD0 h4 hc) h
          · obtain ⟨a, rfl⟩ := one_of (show ks.length = 1 by omega)
            subst h4
            have e := lenD (a := a) (n := n) (by omega) (by omega)
            rw [e] at h ⊢
            split at h
            · rename_i hd
              rw [if_pos hd]
              exact .inr (.inr ⟨rfl, by omega, a, rfl, rfl, hd⟩)
            · exact absurd rfl h
        · exact absurd (lenE h1 h2 h3 h4) h
theorem trees_law : ∀ (m : Nat) (t : Tr), t.parts ≤ m → len t ≠ 0 → t.blu = false → prodN t.lvs = len t ∧ (∀ x ∈ t.lvs, 1 ≤ x.N) ∧ t.depth ≤ t.lvs.length ∧ 1 ≤ t.lvs.length
  | 0, t, h, _, _ => by have := parts_pos t; omega
  | m + 1, t, h, hl, hb => by
    obtain ⟨k, n, ks⟩ := t
    rw [Tr.blu] at hb
    rcases len_shape hl with ⟨_, rfl, e, hn⟩ | ⟨_, a, b, rfl, ha, hb2, e⟩ | ⟨rfl, _⟩
    · rw [e, lvs_leaf rfl]
      refine ⟨by rw [prodN, prodN, Int.mul_one]; rfl, fun x hx => ?_, by simp [Tr.depth, depthL], by simp⟩
      obtain rfl := List.mem_singleton.1 hx
      exact hn
    · rw [Tr.parts, partsL, partsL, partsL] at h
      simp only [bluL, Bool.or_false, Bool.or_eq_false_iff] at hb
      have iha := trees_law m a (by omega) (by omega) hb.1.1
      have ihb := trees_law m b (by omega) (by omega) hb.1.2
      rw [e, lvs_node (by simp), lvsL, lvsL, lvsL, List.append_nil, prodN_app, iha.1, ihb.1]
      refine ⟨rfl, fun x hx => ?_, ?_, ?_⟩
      · rcases List.mem_append.1 hx with h | h
        · exact iha.2.1 x h
        · exact ihb.2.1 x h
      · rw [Tr.depth, depthL, depthL, depthL, List.length_append]; omega
      · rw [List.length_append]; omega
    · simp at hb
/-- A good order's parts are good. -/
theorem kid_good {k n : Int} {ks : List Tr} {t : Tr} {i : Nat} (h : lenO (.node k n ks) ≠ 0) (hi : ks[i]? = some t) : lenO t ≠ 0 ∧ lenO t = len t ∧ (Tr.node k n ks).depth ≤ 16 ∧ lenO (.node k n ks) = len (.node k n ks) := by
  have hp := kid_lt (k := k) (n := n) hi
  have hd := depthL_get hi
  have hdd : (Tr.node k n ks).depth = depthL ks + 1 := by rw [Tr.depth]
  rw [len_law] at h ⊢
  rw [len_law]
  unfold lenR at h ⊢
  split at h
  · rename_i hc
    rw [if_pos hc, if_pos ⟨by omega, by omega⟩]
    refine ⟨?_, rfl, hc.2, rfl⟩
    rcases len_shape h with ⟨_, rfl, _⟩ | ⟨_, a, b, rfl, ha, hb, _⟩ | ⟨_, hn, a, rfl, _, ha⟩
    · simp at hi
    · match i, hi with
      | 0, hi => have : a = t := by simpa using hi
                 subst this; omega
      | 1, hi => have : b = t := by simpa using hi
                 subst this; omega
      | i + 2, hi => simp at hi
    · match i, hi with
      | 0, hi => have : a = t := by simpa using hi
                 subst this; omega
      | i + 1, hi => simp at hi
  · exact absurd rfl h
theorem good_len {t : Tr} (h : lenO t ≠ 0) : lenO t = len t ∧ t.depth ≤ 16 := by
  rw [len_law] at h ⊢
  unfold lenR at h ⊢
  split at h
  · rename_i hc
    rw [if_pos hc]
    exact ⟨rfl, hc.2⟩
  · exact absurd rfl h
def DepC (t : Tr) : Prop := t.parts ≤ 4194304 → ∀ (w0 w : World) (F : List Seg) (vs : List Value), Hp w0 w F → t.Is F vs → Ret Tryd.prog 28 [.agg vs.toArray] w fun v w' => v = .int .i64 (t.depth : Nat) ∧ Hp w0 w' F
def BluC (t : Tr) : Prop := t.parts ≤ 4194304 → ∀ (w0 w : World) (F : List Seg) (vs : List Value), Hp w0 w F → t.Is F vs → Ret Tryd.prog 30 [.agg vs.toArray] w fun v w' => v = .bool t.blu ∧ Hp w0 w' F

theorem depth_step {k n : Int} {ks : List Tr} (ih : ∀ t, t.parts < (Tr.node k n ks).parts → DepC t) (hp : (Tr.node k n ks).parts ≤ 4194304) {w0 w : World} {F : List Seg} {p : Option Addr} {c : Nat} {xs : List Value} (H : Hp w0 w F) (hs : SlAt F p xs) (hk : KidsIs F ks xs) : Ret Tryd.prog 28 [.agg (tv k n p ks.length c).toArray] w fun v w' => v = .int .i64 ((Tr.node k n ks).depth : Nat) ∧ Hp w0 w' F := by
  refine Calls.of_J (n := 20) Tryd.func28 rfl rfl rfl ?_
  refine J.seq ?_
  have hkl := partsL_len ks
  have hpp : (Tr.node k n ks).parts = 1 + partsL ks := by rw [Tr.parts]
  have hdp := depth_parts (.node k n ks)
  have hdd : (Tr.node k n ks).depth = depthL ks + 1 := by rw [Tr.depth]
  refine J.region ?_
  refine JL.does trivial (EX.box (v := Value.agg _) H rfl rfl) ?_
  rintro _ w ⟨b1, rfl, H⟩
  refine JL.go trivial (RX.assign) ?_
  refine JL.nil ?_
  refine J.seq ?_
  refine J.region ?_
  refine JL.go trivial (RX.assign) ?_
  refine JL.nil ?_
  refine J.seq ?_
  refine J.seq ?_
  refine J.region ?_
  refine JL.go trivial (RX.fieldAddr rfl fo25_2 rfl) ?_
  refine JL.go trivial (RX.load H rfl (i := 0) (v := .slice p ks.length c) rfl rfl one23) ?_
  refine JL.go trivial (RX.len_slice rfl (by rw [sl23]; rfl) rfl) ?_
  refine JL.go trivial (RX.move) ?_
  refine JL.nil ?_
  refine J.block ?_
  refine J.loop (ι := Nat) (S := fun i => [(3, .int .i64 (depthT ks i : Nat)), (9, .int .i64 (i : Nat))]) (Φ := fun i w => i ≤ ks.length ∧ Hp w0 w ([(b1, cel (tv k n p ks.length c) 25)] :: F)) (μ := fun i => ks.length - i) (C := [(7, _), (8, _)]) 0 ⟨rfl, rfl, trivial⟩ ⟨rfl, rfl, trivial⟩ ?_ ?_
  · exact ⟨by omega, H⟩
  clear H
  rintro i ρ w ⟨hi, H⟩ IH
  refine J.seq ?_
  refine J.region ?_
  refine JL.go trivial (RX.lt rfl rfl) ?_
  refine JL.nil ?_
  refine J.seq ?_
  refine J.cond_d rfl (fun hlt => ?_) (fun hlt => ?_)
  · skip
    obtain ⟨t1, ht1⟩ : ∃ t1, ks[i]? = some t1 := ⟨_, List.getElem?_eq_getElem (by omega)⟩
    obtain ⟨a1, ha1, hi1⟩ := hk.get ht1
    obtain ⟨k1, n1, p1, m1, c1, rfl⟩ := hi1.shape
    have hxl := hk.len
    obtain ⟨pb, po, rfl⟩ := spot_some hs (by omega)
    have hlp := kid_lt (k := k) (n := n) ht1
    have hds := depthT_succ ht1
    refine J.skip ?_
    refine J.seq ?_
    refine J.block ?_
    refine J.seq ?_
    refine J.region ?_
    refine JL.go trivial (RX.indexAddr rfl rfl sl23 (by omega) (by omega) (o' := po + i * 3) (by omega)) ?_
    refine JL.go trivial (RX.loadAggS H hs.cons rfl (j := i * 3) (by omega) (vs := tv k1 n1 p1 m1 c1) ha1 ag25) ?_
    refine JL.does trivial (EX.alloc H zr25 rfl) ?_
    rintro _ w ⟨b5, rfl, H⟩
    refine JL.does trivial (EX.storeAgg H rfl rfl (i := 0) (vs := tv k1 n1 p1 m1 c1) (l' := tv k1 n1 p1 m1 c1) rfl tv_cell (by simp) sz25 rfl rfl) ?_
    rintro _ w H
    refine JL.nil ?_
    refine J.region ?_
    refine JL.go trivial (RX.movev (v := Value.int _ _) rfl) ?_
    refine JL.go trivial (RX.loadAgg H rfl (i := 0) (vs := tv k1 n1 p1 m1 c1) rfl rfl ag25) ?_
    refine JL.does trivial (EX.call rfl cl28 rfl ((ih t1 hlp (by omega) _ _ _ _ H hi1.cons.cons))) ?_
    rintro _ w ⟨rfl, H⟩
    refine JL.go trivial (RX.max_ (r := ((depthT ks (i + 1) : Nat) : Int)) rfl rfl (by omega)) ?_
    refine JL.go trivial (RX.assignv (v := Value.int _ _) rfl) ?_
    refine JL.nil ?_
    refine J.inBlock ?_
    refine J.region ?_
    refine JL.go trivial (RX.add rfl rfl (w_i64 (r := ((i + 1 : Nat) : Int)) (by omega) (by omega) (by omega))) ?_
    refine JL.go trivial (RX.movev (v := Value.int _ _) rfl) ?_
    refine JL.nil ?_
    exact IH (i + 1) _ _ (by omega) ⟨rfl, rfl, trivial⟩ ⟨rfl, rfl, trivial⟩ ⟨by omega, H.drop⟩
  · skip
    have hil : i = ks.length := by omega
    subst hil
    have hfl := depthT_full ks
    refine J.exit rfl ?_
    refine J.seq ?_
    refine J.region ?_
    refine JL.go trivial (RX.movev (v := Value.int _ _) rfl) ?_
    refine JL.go trivial (RX.add rfl rfl (w_i64 (r := (((Tr.node k n ks).depth : Nat) : Int)) (by omega) (by omega) (by omega))) ?_
    refine JL.go trivial (RX.assignv (v := Value.int _ _) rfl) ?_
    refine JL.nil ?_
    refine J.ret1 (v := Value.int _ _) Tryd.func28 rfl rfl ?_
    exact ⟨_, rfl, rfl, H.drop⟩
theorem depth_b : ∀ t, DepC t := tr_ind fun t ih hp w0 w F vs H ht => by
  obtain ⟨k, n, ks⟩ := t
  rw [Tr.Is] at ht
  obtain ⟨p, c, xs, rfl, hs, hk⟩ := ht
  exact depth_step ih hp H hs hk
theorem blue_step {k n : Int} {ks : List Tr} (ih : ∀ t, t.parts < (Tr.node k n ks).parts → BluC t) (hp : (Tr.node k n ks).parts ≤ 4194304) {w0 w : World} {F : List Seg} {p : Option Addr} {c : Nat} {xs : List Value} (H : Hp w0 w F) (hs : SlAt F p xs) (hk : KidsIs F ks xs) : Ret Tryd.prog 30 [.agg (tv k n p ks.length c).toArray] w fun v w' => v = .bool (Tr.node k n ks).blu ∧ Hp w0 w' F := by
  refine Calls.of_J (n := 20) Tryd.func30 rfl rfl rfl ?_
  refine J.seq ?_
  have hkl := partsL_len ks
  have hpp : (Tr.node k n ks).parts = 1 + partsL ks := by rw [Tr.parts]
  have hbb : (Tr.node k n ks).blu = (bluL ks || decide (k = 4)) := by rw [Tr.blu]
  refine J.region ?_
  refine JL.does trivial (EX.box (v := Value.agg _) H rfl rfl) ?_
  rintro _ w ⟨b1, rfl, H⟩
  refine JL.go trivial (RX.assign) ?_
  refine JL.nil ?_
  refine J.seq ?_
  refine J.seq ?_
  refine J.region ?_
  refine JL.go trivial (RX.fieldAddr rfl fo25_2 rfl) ?_
  refine JL.go trivial (RX.load H rfl (i := 0) (v := .slice p ks.length c) rfl rfl one23) ?_
  refine JL.go trivial (RX.len_slice rfl (by rw [sl23]; rfl) rfl) ?_
  refine JL.go trivial (RX.move) ?_
  refine JL.nil ?_
  refine J.block ?_
  refine J.loop (ι := Nat) (S := fun i => [(9, .int .i64 (i : Nat))]) (Φ := fun i w => i ≤ ks.length ∧ bluL (ks.take i) = false ∧ Hp w0 w ([(b1, cel (tv k n p ks.length c) 25)] :: F)) (μ := fun i => ks.length - i) (C := [(1, _), (7, _), (8, _)]) 0 ⟨rfl, rfl, rfl, trivial⟩ ⟨rfl, trivial⟩ ?_ ?_
  · exact ⟨by omega, by rw [List.take_zero, bluL], H⟩
  clear H
  rintro i ρ w ⟨hi, hbl, H⟩ IH
  refine J.seq ?_
  refine J.region ?_
  refine JL.go trivial (RX.lt rfl rfl) ?_
  refine JL.nil ?_
  refine J.seq ?_
  refine J.cond_d rfl (fun hlt => ?_) (fun hlt => ?_)
  · skip
    obtain ⟨t1, ht1⟩ : ∃ t1, ks[i]? = some t1 := ⟨_, List.getElem?_eq_getElem (by omega)⟩
    obtain ⟨a1, ha1, hi1⟩ := hk.get ht1
    obtain ⟨k1, n1, p1, m1, c1, rfl⟩ := hi1.shape
    have hxl := hk.len
    obtain ⟨pb, po, rfl⟩ := spot_some hs (by omega)
    have hlp := kid_lt (k := k) (n := n) ht1
    have hbs := bluL_take ht1
    refine J.skip ?_
    refine J.seq ?_
    refine J.block ?_
    refine J.seq ?_
    refine J.region ?_
    refine JL.go trivial (RX.indexAddr rfl rfl sl23 (by omega) (by omega) (o' := po + i * 3) (by omega)) ?_
    refine JL.go trivial (RX.loadAggS H hs.cons rfl (j := i * 3) (by omega) (vs := tv k1 n1 p1 m1 c1) ha1 ag25) ?_
    refine JL.does trivial (EX.alloc H zr25 rfl) ?_
    rintro _ w ⟨b5, rfl, H⟩
    refine JL.does trivial (EX.storeAgg H rfl rfl (i := 0) (vs := tv k1 n1 p1 m1 c1) (l' := tv k1 n1 p1 m1 c1) rfl tv_cell (by simp) sz25 rfl rfl) ?_
    rintro _ w H
    refine JL.nil ?_
    refine J.seq ?_
    refine J.region ?_
    refine JL.go trivial (RX.loadAgg H rfl (i := 0) (vs := tv k1 n1 p1 m1 c1) rfl rfl ag25) ?_
    refine JL.does trivial (EX.call rfl cl30 rfl ((ih t1 hlp (by omega) _ _ _ _ H hi1.cons.cons))) ?_
    rintro _ w ⟨rfl, H⟩
    refine JL.go trivial (RX.assignv (v := Value.bool _) rfl) ?_
    refine JL.nil ?_
    refine J.seq ?_
    refine J.region ?_
    refine JL.go trivial (RX.movev (v := Value.bool _) rfl) ?_
    refine JL.nil ?_
    refine J.cond rfl (fun hkb => ?_) (fun hkb => ?_)
    · skip
      refine J.seq ?_
      refine J.region ?_
      refine JL.go trivial (RX.assign) ?_
      refine JL.nil ?_
      refine J.ret1 (v := Value.bool _) Tryd.func30 rfl rfl ?_
      exact ⟨_, rfl, by rw [hbb, bluL_get ht1 hkb]; rfl, H.drop.drop⟩
    · skip
      rw [hbl, hkb] at hbs
      refine J.skip ?_
      refine J.inBlock ?_
      refine J.region ?_
      refine JL.go trivial (RX.add rfl rfl (w_i64 (r := ((i + 1 : Nat) : Int)) (by omega) (by omega) (by omega))) ?_
      refine JL.go trivial (RX.movev (v := Value.int _ _) rfl) ?_
      refine JL.nil ?_
      exact IH (i + 1) _ _ (by omega) ⟨rfl, rfl, rfl, trivial⟩ ⟨rfl, trivial⟩ ⟨by omega, hbs, H.drop⟩
  · skip
    have hil : i = ks.length := by omega
    subst hil
    rw [List.take_length] at hbl
    refine J.exit rfl ?_
    refine J.seq ?_
    refine J.region ?_
    refine JL.go trivial (RX.fieldAddr rfl fo25_0 rfl) ?_
    refine JL.go trivial (RX.load H rfl (i := 0) (v := .int .i64 k) rfl rfl one3) ?_
    refine JL.go trivial (RX.eq rfl rfl) ?_
    refine JL.go trivial (RX.assignv (v := Value.bool _) rfl) ?_
    refine JL.nil ?_
    refine J.ret1 (v := Value.bool _) Tryd.func30 rfl rfl ?_
    exact ⟨_, rfl, by rw [hbb, hbl, Bool.false_or], H.drop⟩
theorem blue_b : ∀ t, BluC t := tr_ind fun t ih hp w0 w F vs H ht => by
  obtain ⟨k, n, ks⟩ := t
  rw [Tr.Is] at ht
  obtain ⟨p, c, xs, rfl, hs, hk⟩ := ht
  exact blue_step ih hp H hs hk
end Go.Proofs.YtinbeaaloailnaaDoor
