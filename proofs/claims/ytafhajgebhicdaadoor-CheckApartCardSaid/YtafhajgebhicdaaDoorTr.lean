/- The reference's Touched. -/
import Derived.Test.YtafhajgebhicdaaDoorTo
namespace Go.Proofs.YtafhajgebhicdaaDoor
open Go Go.Eng
set_option maxRecDepth 100000
set_option linter.unusedVariables false
set_option linter.unusedSimpArgs false

theorem sl_into {F : List Seg} {s t : Seg} {p : Option Addr} {xs : List Value} (h : SlAt (s :: F) p xs) (hs : ∀ e, e ∈ s → e ∈ t) : SlAt (t :: F) p xs :=
  h.perm (fun e he => by
    simp only [List.flatten_cons, List.mem_append] at he ⊢
    exact he.imp (hs e) id)
theorem tW_eq {s : Stp} (hf : formB s = true) (h5 : ¬ s.op = 5) : tW s = clL (wr s) := by
  simp only [tW, hf, if_true, if_neg h5]
  exact rise_eq (clL_inc (wr_ok hf).j0) (fun x => Iff.rfl)
theorem tR_eq {s : Stp} (hf : formB s = true) (h5 : ¬ s.op = 5) {m : List Int} (hm : Inc m) (h : ∀ x, x ∈ m ↔ x ∈ baseL s ∨ x ∈ rdsL s) : tR s = m := by
  simp only [tR, hf, if_true, if_neg h5]
  exact rise_eq hm (fun x => by rw [List.mem_append, h])
theorem t5_eq {s : Stp} (hf : formB s = true) (h5 : s.op = 5) : tR s = flyA s s.n.toNat ∧ tW s = flyA s s.n.toNat := by
  have ff := form_facts hf
  have h := (ff.2.2.2.2.2.2.2.2.2.2.2.2.2.1 h5).2.2
  have e : rise (flyA s s.n.toNat) = flyA s s.n.toNat := rise_eq (flyA_inc ff.2.2.2.2.2.2.2.2.1 h _) (fun x => Iff.rfl)
  simp only [tR, tW, hf, if_true, if_pos h5, e, and_self]
theorem inc_nil : Inc [] := List.Pairwise.nil
def put (out : List Int) (c : Int) : List Int := if out.getLast? = some c then out else out ++ [c]
/-- Two rising lists, taken so far: out. -/
structure BI (a b out : List Int) (i j : Nat) : Prop where
  ia : i ≤ a.length
  jb : j ≤ b.length
  inc : Inc out
  le : ∀ x ∈ out, (∀ y ∈ a.drop i, x ≤ y) ∧ ∀ y ∈ b.drop j, x ≤ y
  mem : ∀ x, (x ∈ out ∨ x ∈ a.drop i ∨ x ∈ b.drop j) ↔ (x ∈ a ∨ x ∈ b)
theorem put_mem {out : List Int} {c x : Int} : x ∈ put out c ↔ x ∈ out ∨ x = c := by
  unfold put
  split
  · rename_i h
    constructor
    · exact .inl
    · rintro (h1 | rfl)
      · exact h1
      · exact List.mem_of_getLast? h
  · simp
theorem inc_last {out : List Int} (h : Inc out) {l : Int} (hl : out.getLast? = some l) : ∀ x ∈ out, x ≤ l := by
  intro x hx
  obtain ⟨ys, rfl⟩ := List.getLast?_eq_some_iff.1 hl
  rcases List.mem_append.1 hx with h1 | h1
  · have := (List.pairwise_append.1 h).2.2 x h1 l (by simp)
    omega
  · rw [List.mem_singleton.1 h1]; exact Int.le_refl _
theorem put_inc {out : List Int} {c : Int} (h : Inc out) (hc : ∀ x ∈ out, x ≤ c) : Inc (put out c) := by
  unfold put
  split
  · exact h
  · rename_i hne
    refine List.pairwise_append.2 ⟨h, List.pairwise_singleton _ _, fun x hx y hy => ?_⟩
    rw [List.mem_singleton.1 hy]
    cases hl : out.getLast? with
    | none => rw [List.getLast?_eq_none_iff.1 hl] at hx; cases hx
    | some l =>
      have h1 := inc_last h hl x hx
      have h2 := hc l (List.mem_of_getLast? hl)
      have h3 : l ≠ c := fun e => hne (by rw [hl, e])
      omega
theorem inc_drop {a : List Int} (h : Inc a) {i : Nat} {c : Int} (hc : a[i]? = some c) : a.drop i = c :: a.drop (i + 1) ∧ ∀ y ∈ a.drop (i + 1), c < y := by
  obtain ⟨hi, rfl⟩ := List.getElem?_eq_some_iff.1 hc
  have e := List.drop_eq_getElem_cons hi
  refine ⟨e, ?_⟩
  have h1 : Inc (a.drop i) := List.Pairwise.sublist (List.drop_sublist i a) h
  rw [e] at h1
  exact (List.pairwise_cons.1 h1).1
theorem BI.stepa {a b out : List Int} {i j : Nat} {c : Int} (h : BI a b out i j) (ha : Inc a) (hc : a[i]? = some c) (hb : ∀ y ∈ b.drop j, c ≤ y) : BI a b (put out c) (i + 1) j := by
  obtain ⟨e, hlt⟩ := inc_drop ha hc
  have hcm : c ∈ a.drop i := by rw [e]; exact List.mem_cons_self
  refine ⟨(List.getElem?_eq_some_iff.1 hc).1, h.jb, put_inc h.inc (fun x hx => (h.le x hx).1 c hcm), fun x hx => ?_, fun x => ?_⟩
  · rcases put_mem.1 hx with h1 | rfl
    · exact ⟨fun y hy => (h.le x h1).1 y (by rw [e]; exact List.mem_cons_of_mem _ hy), (h.le x h1).2⟩
    · exact ⟨fun y hy => Int.le_of_lt (hlt y hy), hb⟩
  · rw [← h.mem, put_mem, e, List.mem_cons]
    constructor
    · rintro ((h1 | h1) | h1 | h1)
      · exact .inl h1
      · exact .inr (.inl (.inl h1))
      · exact .inr (.inl (.inr h1))
      · exact .inr (.inr h1)
    · rintro (h1 | (h1 | h1) | h1)
      · exact .inl (.inl h1)
      · exact .inl (.inr h1)
      · exact .inr (.inl h1)
      · exact .inr (.inr h1)
theorem BI.swap {a b out : List Int} {i j : Nat} (h : BI a b out i j) : BI b a out j i :=
  ⟨h.jb, h.ia, h.inc, fun x hx => (h.le x hx).symm, fun x => by rw [or_comm (a := x ∈ b.drop j), h.mem, or_comm]⟩
theorem BI.stepb {a b out : List Int} {i j : Nat} {c : Int} (h : BI a b out i j) (hb : Inc b) (hc : b[j]? = some c) (ha : ∀ y ∈ a.drop i, c ≤ y) : BI a b (put out c) i (j + 1) := (h.swap.stepa hb hc ha).swap
theorem le_drop {a : List Int} (h : Inc a) {i : Nat} {c d : Int} (hc : a[i]? = some c) (hd : d ≤ c) : ∀ y ∈ a.drop i, d ≤ y := by
  obtain ⟨e, hlt⟩ := inc_drop h hc
  intro y hy
  rw [e] at hy
  rcases List.mem_cons.1 hy with rfl | h1
  · exact hd
  · have := hlt y h1; omega
theorem BI.fin {a b out : List Int} {i j : Nat} (h : BI a b out i j) (hi : ¬ i < a.length) (hj : ¬ j < b.length) : ∀ x, x ∈ out ↔ x ∈ a ∨ x ∈ b := by
  intro x
  rw [← h.mem, List.drop_eq_nil_of_le (by omega), List.drop_eq_nil_of_le (by omega)]
  simp
theorem last_get {out : List Int} {y : Int} (h : out[out.length - 1]? = some y) : out.getLast? = some y := by rw [List.getLast?_eq_getElem?]; exact h
theorem put_last {out : List Int} {y c : Int} (h : out[out.length - 1]? = some y) (hne : ¬ y = c) : put out c = out ++ [c] := by
  unfold put
  rw [if_neg]
  rw [last_get h]
  intro e
  exact hne (Option.some.inj e)
theorem put_same {out : List Int} {y c : Int} (h : out[out.length - 1]? = some y) (he : y = c) : put out c = out := by
  unfold put
  rw [if_pos]
  rw [last_get h, he]
theorem put_len {out : List Int} {c : Int} : (put out c).length ≤ out.length + 1 := by
  unfold put
  split
  · omega
  · simp

theorem row_r {w0 w : World} {F : List Seg} {c : Cl} (H : Hp w0 w F) (hc : c.Ok) : Ret Tryd.prog 34 [.int .i64 c.at_, .int .i64 c.jump, .int .i64 c.cnt] w fun v w' => ∃ p cp s, v = .slice p (clL c).length cp ∧ OwnSl 3 1 p (clL c).length cp (intsV (clL c)) s ∧ Hp w0 w' (s :: F) := by
  refine Calls.of_J (n := 24) Tryd.func34 rfl rfl rfl ?_
  refine J.seq ?_
  refine J.region ?_
  refine JL.go trivial (RX.assign) ?_
  refine JL.nil ?_
  refine J.seq ?_
  have hm := hc.mul
  have ha0 := hc.a0
  have ha1 := hc.a1
  have hc0 := hc.c0
  have hc1 := hc.c1
  have hj0 := hc.j0
  have hj1 := hc.j1
  refine J.region ?_
  refine JL.does trivial (EX.buildSlice0 H elI) ?_
  rintro _ w ⟨b7, rfl, H⟩
  refine JL.go trivial (RX.assignv (v := Value.slice _ _ _) rfl) ?_
  refine JL.nil ?_
  refine J.seq ?_
  refine J.seq ?_
  refine J.region ?_
  refine JL.go trivial (RX.assign) ?_
  refine JL.nil ?_
  refine J.block ?_
  refine J.loop (ι := Nat × Option Addr × Nat × Seg) (S := fun q => [(8, .int .i64 (q.1 : Nat)), (7, .slice q.2.1 q.1 q.2.2.1)]) (Φ := fun q w => q.1 ≤ c.cnt.toNat ∧ OwnSl 3 1 q.2.1 q.1 q.2.2.1 (intsV (upC (fun i => c.at_ + i * c.jump) q.1)) q.2.2.2 ∧ Hp w0 w (q.2.2.2 :: F)) (μ := fun q => c.cnt.toNat - q.1) (C := [(0, _), (1, _), (2, _)]) (0, some ⟨b7, 0, none⟩, 0, [(b7, cel [] 3)]) ⟨rfl, rfl, rfl, trivial⟩ ⟨rfl, rfl, trivial⟩ ?_ ?_
  · exact ⟨by simp, OwnSl.empty, H⟩
  clear H
  rintro ⟨k, p, cp, g⟩ ρ w ⟨hk, ho, H⟩ IH
  simp only at hk ho H
  dsimp only
  refine J.seq ?_
  refine J.seq ?_
  refine J.region ?_
  refine JL.go trivial (RX.movev (v := Value.int _ _) rfl) ?_
  refine JL.go trivial (RX.movev (v := Value.int _ _) rfl) ?_
  refine JL.go trivial (RX.lt rfl rfl) ?_
  refine JL.nil ?_
  refine J.cond_d rfl (fun hlt => ?_) (fun hlt => ?_)
  · skip
    have him : 0 ≤ (k : Int) * c.jump ∧ (k : Int) * c.jump ≤ 1099511627776 := ⟨Int.mul_nonneg (by omega) (by omega), Int.le_trans (Int.mul_le_mul_of_nonneg_right (show (k : Int) ≤ c.cnt - 1 by omega) (by omega)) hm.2⟩
    refine J.skip ?_
    refine J.seq ?_
    refine J.block ?_
    refine J.region ?_
    refine JL.go trivial (RX.movev (v := Value.slice _ _ _) rfl) ?_
    refine JL.go trivial (RX.movev (v := Value.int _ _) rfl) ?_
    refine JL.go trivial (RX.movev (v := Value.int _ _) rfl) ?_
    refine JL.go trivial (RX.movev (v := Value.int _ _) rfl) ?_
    refine JL.go trivial (RX.mul rfl rfl (w_i64 rfl (by omega) (by omega))) ?_
    refine JL.go trivial (RX.add rfl rfl (w_i64 rfl (by omega) (by omega))) ?_
    refine JL.does trivial (EX.buildSlice1 (v := Value.int _ _) H elI rfl rfl) ?_
    rintro _ w ⟨br, rfl, H⟩
    refine JL.does trivial (EX.append (ys := [.int .i64 (c.at_ + k * c.jump)]) (L' := fun s' => [(br, cel [.int .i64 (c.at_ + k * c.jump)] 3)] :: s' :: F) H elI rfl rfl (i := 1) rfl ho (SlAt.here rfl) rfl (by simp [isCell]) (by decide) (by omega) (by omega) (fun _ => rfl)) ?_
    rintro _ w ⟨p3, c3, s3, rfl, ho3, H⟩
    refine JL.go trivial (RX.assignv (v := Value.slice _ _ _) rfl) ?_
    refine JL.nil ?_
    refine J.inBlock ?_
    refine J.region ?_
    refine JL.go trivial (RX.movev (v := Value.int _ _) rfl) ?_
    refine JL.go trivial (RX.add rfl rfl (w_i64 (r := ((k + 1 : Nat) : Int)) (by omega) (by omega) (by omega))) ?_
    refine JL.go trivial (RX.assignv (v := Value.int _ _) rfl) ?_
    refine JL.nil ?_
    rw [show intsV (upC (fun i => c.at_ + i * c.jump) k) ++ [.int .i64 (c.at_ + k * c.jump)] = intsV (upC (fun i => c.at_ + i * c.jump) (k + 1)) by rw [upC_succ, intsV_app]; rfl] at ho3
    exact IH (k + 1, p3, c3, s3) _ _ (by simp only; omega) ⟨rfl, rfl, rfl, trivial⟩ ⟨rfl, rfl, trivial⟩ ⟨by simp only; omega, ho3, H.drop⟩
  · skip
    refine J.exit rfl ?_
    refine J.seq ?_
    refine J.region ?_
    refine JL.go trivial (RX.movev (v := Value.slice _ _ _) rfl) ?_
    refine JL.go trivial (RX.assignv (v := Value.slice _ _ _) rfl) ?_
    refine JL.nil ?_
    refine J.ret1 (v := Value.slice _ _ _) Tryd.func34 rfl rfl ?_
    have hk2 : k = c.cnt.toNat := by omega
    subst hk2
    exact ⟨_, rfl, p, cp, g, by rw [clL_len], by rw [clL_len]; exact ho, H⟩
set_option maxHeartbeats 1600000 in
theorem both_r {w0 w : World} {F : List Seg} {a b : List Int} {pa pb : Option Addr} {ca cb : Nat} (H : Hp w0 w F) (ha : SlAt F pa (intsV a)) (hb : SlAt F pb (intsV b)) (ia : Inc a) (ib : Inc b) (a0 : 0 < a.length) (b0 : 0 < b.length) (al : a.length ≤ 1048576) (bl : b.length ≤ 1048576) : Ret Tryd.prog 35 [.slice pa a.length ca, .slice pb b.length cb] w fun v w' => ∃ l p c s, v = .slice p l.length c ∧ OwnSl 3 1 p l.length c (intsV l) s ∧ Inc l ∧ (∀ x, x ∈ l ↔ x ∈ a ∨ x ∈ b) ∧ Hp w0 w' (s :: F) := by
  refine Calls.of_J (n := 71) Tryd.func35 rfl rfl rfl ?_
  refine J.seq ?_
  refine J.region ?_
  refine JL.go trivial (RX.assign) ?_
  refine JL.nil ?_
  refine J.seq ?_
  obtain ⟨ab, ao, rfl, _⟩ := ha.some (by rw [intsV_len]; exact a0)
  obtain ⟨bb, bo, rfl, _⟩ := hb.some (by rw [intsV_len]; exact b0)
  refine J.region ?_
  refine JL.does trivial (EX.buildSlice0 H elI) ?_
  rintro _ w ⟨b7, rfl, H⟩
  refine JL.go trivial (RX.assignv (v := Value.slice _ _ _) rfl) ?_
  refine JL.nil ?_
  refine J.seq ?_
  refine J.region ?_
  refine JL.go trivial (RX.assign) ?_
  refine JL.go trivial (RX.assign) ?_
  refine JL.nil ?_
  refine J.seq ?_
  refine J.block ?_
  refine J.loop (ι := Nat × Nat × List Int × Option Addr × Nat × Seg) (S := fun q => [(6, .int .i64 (q.1 : Nat)), (7, .int .i64 (q.2.1 : Nat)), (5, .slice q.2.2.2.1 q.2.2.1.length q.2.2.2.2.1)]) (Φ := fun q w => BI a b q.2.2.1 q.1 q.2.1 ∧ q.2.2.1.length ≤ q.1 + q.2.1 ∧ OwnSl 3 1 q.2.2.2.1 q.2.2.1.length q.2.2.2.2.1 (intsV q.2.2.1) q.2.2.2.2.2 ∧ Hp w0 w (q.2.2.2.2.2 :: F)) (μ := fun q => (a.length - q.1) + (b.length - q.2.1)) (C := [(0, _), (1, _)]) (0, 0, [], some ⟨b7, 0, none⟩, 0, [(b7, cel [] 3)]) ⟨rfl, rfl, trivial⟩ ⟨rfl, rfl, rfl, trivial⟩ ?_ ?_
  · exact ⟨⟨Nat.zero_le _, Nat.zero_le _, inc_nil, fun x hx => (by cases hx), fun x => by simp⟩, Nat.le_refl _, OwnSl.empty, H⟩
  clear H
  rintro ⟨i, j, out, p, cp, g⟩ ρ w ⟨hbi, hol, ho, H⟩ IH
  simp only at hbi hol ho H
  have hia := hbi.ia
  have hjb := hbi.jb
  dsimp only
  refine J.seq ?_
  refine J.seq ?_
  refine J.region ?_
  refine JL.go trivial (RX.movev (v := Value.int _ _) rfl) ?_
  refine JL.go trivial (RX.movev (v := Value.slice _ _ _) rfl) ?_
  refine JL.go trivial (RX.len_slice rfl (by rw [sl43]; rfl) rfl) ?_
  refine JL.go trivial (RX.lt rfl rfl) ?_
  refine JL.go trivial (RX.movev (v := Value.bool _) rfl) ?_
  refine JL.splitS 14 rfl (fun e1 => ?_) (fun e1 => ?_)
  · skip
    first | have e1p := of_decide_eq_true e1 | skip
    refine JL.no ⟨_, rfl, gno e1⟩ ?_
    refine JL.no ⟨_, rfl, gno e1⟩ ?_
    refine JL.no ⟨_, rfl, gno e1⟩ ?_
    refine JL.no ⟨_, rfl, gno e1⟩ ?_
    refine JL.go trivial (RX.pick_t rfl e1) ?_
    refine JL.nil ?_
    refine J.cond_t rfl rfl ?_
    refine J.skip ?_
    refine J.block ?_
    refine J.seq ?_
    refine J.region ?_
    refine JL.go trivial (RX.assign) ?_
    refine JL.nil ?_
    refine J.seq ?_
    refine J.seq ?_
    refine J.quietH H hmix (by kernel_rfl) ?_
    refine JQ.go trivial (fun w H => RX.movev (v := Value.int _ _) rfl) ?_
    refine JQ.go trivial (fun w H => RX.movev (v := Value.slice _ _ _) rfl) ?_
    refine JQ.go trivial (fun w H => RX.len_slice rfl (by rw [sl43]; rfl) rfl) ?_
    refine JQ.go trivial (fun w H => RX.eq rfl rfl) ?_
    refine JQ.go trivial (fun w H => RX.movev (v := Value.bool _) rfl) ?_
    refine JQ.splitS 24 rfl (fun e3 => ?_) (fun e3 => ?_)
    · skip
      first | have e3p := of_decide_eq_true e3 | skip
      refine JQ.no ⟨_, rfl, gno e3⟩ ?_
      refine JQ.no ⟨_, rfl, gno e3⟩ ?_
      refine JQ.no ⟨_, rfl, gno e3⟩ ?_
      refine JQ.no ⟨_, rfl, gno e3⟩ ?_
      refine JQ.no ⟨_, rfl, gno e3⟩ ?_
      refine JQ.no ⟨_, rfl, nofun⟩ ?_
      refine JQ.no ⟨_, rfl, nofun⟩ ?_
      refine JQ.no ⟨_, rfl, nofun⟩ ?_
      refine JQ.no ⟨_, rfl, nofun⟩ ?_
      refine JQ.no ⟨_, rfl, nofun⟩ ?_
      refine JQ.no ⟨_, rfl, nofun⟩ ?_
      refine JQ.no ⟨_, rfl, nofun⟩ ?_
      refine JQ.no ⟨_, rfl, nofun⟩ ?_
      refine JQ.no ⟨_, rfl, nofun⟩ ?_
      refine JQ.no ⟨_, rfl, gno e3⟩ ?_
      refine JQ.go trivial (fun w H => RX.pick_t rfl e3) ?_
      refine JQ.nil fun w H => ?_
      refine J.cond_t rfl rfl ?_
      refine J.seq ?_
      obtain ⟨c, hc⟩ : ∃ c, a[i]? = some c := ⟨_, List.getElem?_eq_getElem (by have := of_decide_eq_true e1; omega)⟩
      have hst := hbi.stepa ia hc (by
        first
        | (have := of_decide_eq_true e3; rw [List.drop_eq_nil_of_le (by omega)]; intro y hy; cases hy)
        | (rw [hx] at hc; cases hc; exact le_drop ib hy e5))
      refine J.region ?_
      refine JL.go trivial (RX.movev (v := Value.slice _ _ _) rfl) ?_
      refine JL.go trivial (RX.movev (v := Value.int _ _) rfl) ?_
      refine JL.go trivial (RX.indexAddr rfl rfl sl43 (by omega) (by omega) (o' := ao + i) (by omega)) ?_
      refine JL.go trivial (RX.loadS H (SlAt.cons ha) rfl (j := i) rfl (v := .int .i64 c) (intsV_get hc) one3) ?_
      refine JL.go trivial (RX.assignv (v := Value.int _ _) rfl) ?_
      refine JL.nil ?_
      refine J.region ?_
      refine JL.go trivial (RX.movev (v := Value.int _ _) rfl) ?_
      refine JL.go trivial (RX.add rfl rfl (w_i64 (r := ((i + 1 : Nat) : Int)) (by omega) (by omega) (by omega))) ?_
      refine JL.go trivial (RX.assignv (v := Value.int _ _) rfl) ?_
      refine JL.nil ?_
      refine J.seq ?_
      refine J.region ?_
      refine JL.go trivial (RX.movev (v := Value.slice _ _ _) rfl) ?_
      refine JL.go trivial (RX.len_slice rfl (by rw [sl43]; rfl) rfl) ?_
      refine JL.go trivial (RX.eq rfl rfl) ?_
      refine JL.go trivial (RX.movev (v := Value.bool _) rfl) ?_
      refine JL.splitS 56 rfl (fun e6 => ?_) (fun e6 => ?_)
      · skip
        first | have e6p := of_decide_eq_true e6 | skip
        have hput : put out c = out ++ [c] := by
          have : out = [] := List.eq_nil_of_length_eq_zero (by have := of_decide_eq_true e6; omega)
          rw [this]; rfl
        refine JL.no ⟨_, rfl, gno e6⟩ ?_
        refine JL.no ⟨_, rfl, gno e6⟩ ?_
        refine JL.no ⟨_, rfl, gno e6⟩ ?_
        refine JL.no ⟨_, rfl, gno e6⟩ ?_
        refine JL.no ⟨_, rfl, gno e6⟩ ?_
        refine JL.no ⟨_, rfl, gno e6⟩ ?_
        refine JL.no ⟨_, rfl, gno e6⟩ ?_
        refine JL.no ⟨_, rfl, gno e6⟩ ?_
        refine JL.go trivial (RX.pick_t rfl e6) ?_
        refine JL.nil ?_
        refine J.cond_t rfl rfl ?_
        refine J.region ?_
        refine JL.go trivial (RX.movev (v := Value.slice _ _ _) rfl) ?_
        refine JL.go trivial (RX.movev (v := Value.int _ _) rfl) ?_
        refine JL.does trivial (EX.buildSlice1 (v := Value.int _ _) H elI rfl rfl) ?_
        rintro _ w ⟨br, rfl, H⟩
        refine JL.does trivial (EX.append (ys := [.int .i64 c]) (L' := fun s' => [(br, cel [.int .i64 c] 3)] :: s' :: F) H elI rfl rfl (i := 1) rfl ho (SlAt.here rfl) rfl (by simp [isCell]) (by decide) (by omega) (by omega) (fun _ => rfl)) ?_
        rintro v w ⟨p3, c3, s3, hv, ho3, H⟩
        rw [show intsV out ++ [.int .i64 c] = intsV (out ++ [c]) by rw [intsV_app]; rfl, ← hput] at ho3
        have hpl : out.length + 1 = (put out c).length := by rw [hput]; simp
        rw [hpl] at ho3 hv
        subst hv
        refine JL.go trivial (RX.assignv (v := Value.slice _ _ _) rfl) ?_
        refine JL.nil ?_
        refine J.inBlock ?_
        first
        | exact IH (i + 1, j, put out c, p3, c3, s3) _ _ (by simp only; omega) ⟨rfl, rfl, trivial⟩ ⟨rfl, rfl, rfl, trivial⟩ ⟨hst, by have := put_len (out := out) (c := c); simp only; omega, ho3, H.drop⟩
        | exact IH (i, j + 1, put out c, p3, c3, s3) _ _ (by simp only; omega) ⟨rfl, rfl, trivial⟩ ⟨rfl, rfl, rfl, trivial⟩ ⟨hst, by have := put_len (out := out) (c := c); simp only; omega, ho3, H.drop⟩
        | (rw [hput] at hst; exact IH (i + 1, j, out, _, cp, g) _ _ (by simp only; omega) ⟨rfl, rfl, trivial⟩ ⟨rfl, rfl, rfl, trivial⟩ ⟨hst, by simp only; omega, ho, H⟩)
        | (rw [hput] at hst; exact IH (i, j + 1, out, _, cp, g) _ _ (by simp only; omega) ⟨rfl, rfl, trivial⟩ ⟨rfl, rfl, rfl, trivial⟩ ⟨hst, by simp only; omega, ho, H⟩)
      · skip
        first | have e6p := of_decide_eq_false e6 | skip
        have e6p2 := of_decide_eq_false e6
        obtain ⟨g2, l2, rfl, hg2⟩ := ho.ptr (by omega)
        obtain ⟨z, hz⟩ : ∃ z, out[out.length - 1]? = some z := ⟨_, List.getElem?_eq_getElem (by omega)⟩
        refine JL.go ⟨_, rfl, e6⟩ (RX.movev (v := Value.slice _ _ _) rfl) ?_
        refine JL.go ⟨_, rfl, e6⟩ (RX.movev (v := Value.slice _ _ _) rfl) ?_
        refine JL.go ⟨_, rfl, e6⟩ (RX.len_slice rfl (by rw [sl43]; rfl) rfl) ?_
        refine JL.go ⟨_, rfl, e6⟩ (RX.sub rfl rfl (w_i64 (r := ((out.length - 1 : Nat) : Int)) (by omega) (by omega) (by omega))) ?_
        refine JL.go ⟨_, rfl, e6⟩ (RX.indexAddr rfl rfl sl43 (by omega) (by omega) (o' := out.length - 1) (by omega)) ?_
        refine JL.go ⟨_, rfl, e6⟩ (RX.loadS H ho.slAt rfl (j := out.length - 1) (by omega) (v := .int .i64 z) (intsV_get hz) one3) ?_
        refine JL.go ⟨_, rfl, e6⟩ (RX.movev (v := Value.int _ _) rfl) ?_
        refine JL.go ⟨_, rfl, e6⟩ (RX.ne rfl rfl) ?_
        refine JL.go trivial (RX.pick_f rfl e6) ?_
        refine JL.nil ?_
        refine J.cond_d rfl (fun e7 => ?_) (fun e7 => ?_)
        · skip
          have hput := put_last hz e7
          refine J.region ?_
          refine JL.go trivial (RX.movev (v := Value.slice _ _ _) rfl) ?_
          refine JL.go trivial (RX.movev (v := Value.int _ _) rfl) ?_
          refine JL.does trivial (EX.buildSlice1 (v := Value.int _ _) H elI rfl rfl) ?_
          rintro _ w ⟨br, rfl, H⟩
          refine JL.does trivial (EX.append (ys := [.int .i64 c]) (L' := fun s' => [(br, cel [.int .i64 c] 3)] :: s' :: F) H elI rfl rfl (i := 1) rfl ho (SlAt.here rfl) rfl (by simp [isCell]) (by decide) (by omega) (by omega) (fun _ => rfl)) ?_
          rintro v w ⟨p3, c3, s3, hv, ho3, H⟩
          rw [show intsV out ++ [.int .i64 c] = intsV (out ++ [c]) by rw [intsV_app]; rfl, ← hput] at ho3
          have hpl : out.length + 1 = (put out c).length := by rw [hput]; simp
          rw [hpl] at ho3 hv
          subst hv
          refine JL.go trivial (RX.assignv (v := Value.slice _ _ _) rfl) ?_
          refine JL.nil ?_
          refine J.inBlock ?_
          first
          | exact IH (i + 1, j, put out c, p3, c3, s3) _ _ (by simp only; omega) ⟨rfl, rfl, trivial⟩ ⟨rfl, rfl, rfl, trivial⟩ ⟨hst, by have := put_len (out := out) (c := c); simp only; omega, ho3, H.drop⟩
          | exact IH (i, j + 1, put out c, p3, c3, s3) _ _ (by simp only; omega) ⟨rfl, rfl, trivial⟩ ⟨rfl, rfl, rfl, trivial⟩ ⟨hst, by have := put_len (out := out) (c := c); simp only; omega, ho3, H.drop⟩
          | (rw [hput] at hst; exact IH (i + 1, j, out, _, cp, g) _ _ (by simp only; omega) ⟨rfl, rfl, trivial⟩ ⟨rfl, rfl, rfl, trivial⟩ ⟨hst, by simp only; omega, ho, H⟩)
          | (rw [hput] at hst; exact IH (i, j + 1, out, _, cp, g) _ _ (by simp only; omega) ⟨rfl, rfl, trivial⟩ ⟨rfl, rfl, rfl, trivial⟩ ⟨hst, by simp only; omega, ho, H⟩)
        · skip
          have hput := put_same hz (Decidable.not_not.1 e7)
          refine J.skip ?_
          refine J.inBlock ?_
          first
          | exact IH (i + 1, j, put out c, p3, c3, s3) _ _ (by simp only; omega) ⟨rfl, rfl, trivial⟩ ⟨rfl, rfl, rfl, trivial⟩ ⟨hst, by have := put_len (out := out) (c := c); simp only; omega, ho3, H.drop⟩
          | exact IH (i, j + 1, put out c, p3, c3, s3) _ _ (by simp only; omega) ⟨rfl, rfl, trivial⟩ ⟨rfl, rfl, rfl, trivial⟩ ⟨hst, by have := put_len (out := out) (c := c); simp only; omega, ho3, H.drop⟩
          | (rw [hput] at hst; exact IH (i + 1, j, out, _, cp, g) _ _ (by simp only; omega) ⟨rfl, rfl, trivial⟩ ⟨rfl, rfl, rfl, trivial⟩ ⟨hst, by simp only; omega, ho, H⟩)
          | (rw [hput] at hst; exact IH (i, j + 1, out, _, cp, g) _ _ (by simp only; omega) ⟨rfl, rfl, trivial⟩ ⟨rfl, rfl, rfl, trivial⟩ ⟨hst, by simp only; omega, ho, H⟩)
    · skip
      first | have e3p := of_decide_eq_false e3 | skip
      refine JQ.go ⟨_, rfl, e3⟩ (fun w H => RX.movev (v := Value.int _ _) rfl) ?_
      refine JQ.go ⟨_, rfl, e3⟩ (fun w H => RX.movev (v := Value.slice _ _ _) rfl) ?_
      refine JQ.go ⟨_, rfl, e3⟩ (fun w H => RX.len_slice rfl (by rw [sl43]; rfl) rfl) ?_
      refine JQ.go ⟨_, rfl, e3⟩ (fun w H => RX.lt rfl rfl) ?_
      refine JQ.go ⟨_, rfl, e3⟩ (fun w H => RX.movev (v := Value.bool _) rfl) ?_
      refine JQ.splitS 29 rfl (fun e4 => ?_) (fun e4 => ?_)
      · skip
        first | have e4p := of_decide_eq_true e4 | skip
        obtain ⟨x, hx⟩ : ∃ x, a[i]? = some x := ⟨_, List.getElem?_eq_getElem (by omega)⟩
        have e3p2 := of_decide_eq_false e3
        obtain ⟨y, hy⟩ : ∃ y, b[j]? = some y := ⟨_, List.getElem?_eq_getElem (by omega)⟩
        refine JQ.go ⟨_, rfl, e4⟩ (fun w H => RX.movev (v := Value.slice _ _ _) rfl) ?_
        refine JQ.go ⟨_, rfl, e4⟩ (fun w H => RX.movev (v := Value.int _ _) rfl) ?_
        refine JQ.go ⟨_, rfl, e4⟩ (fun w H => RX.indexAddr rfl rfl sl43 (by omega) (by omega) (o' := ao + i) (by omega)) ?_
        refine JQ.go ⟨_, rfl, e4⟩ (fun w H => RX.loadS H (SlAt.cons ha) rfl (j := i) rfl (v := .int .i64 x) (intsV_get hx) one3) ?_
        refine JQ.go ⟨_, rfl, e4⟩ (fun w H => RX.movev (v := Value.slice _ _ _) rfl) ?_
        refine JQ.go ⟨_, rfl, e4⟩ (fun w H => RX.movev (v := Value.int _ _) rfl) ?_
        refine JQ.go ⟨_, rfl, e4⟩ (fun w H => RX.indexAddr rfl rfl sl43 (by omega) (by omega) (o' := bo + j) (by omega)) ?_
        refine JQ.go ⟨_, rfl, e4⟩ (fun w H => RX.loadS H (SlAt.cons hb) rfl (j := j) rfl (v := .int .i64 y) (intsV_get hy) one3) ?_
        refine JQ.go ⟨_, rfl, e4⟩ (fun w H => RX.le rfl rfl) ?_
        refine JQ.go ⟨_, rfl, e3⟩ (fun w H => RX.pick_t rfl e4) ?_
        refine JQ.go trivial (fun w H => RX.pick_f rfl e3) ?_
        refine JQ.nil fun w H => ?_
        refine J.cond_d rfl (fun e5 => ?_) (fun e5 => ?_)
        · skip
          refine J.seq ?_
          obtain ⟨c, hc⟩ : ∃ c, a[i]? = some c := ⟨_, List.getElem?_eq_getElem (by have := of_decide_eq_true e1; omega)⟩
          have hst := hbi.stepa ia hc (by
            first
            | (have := of_decide_eq_true e3; rw [List.drop_eq_nil_of_le (by omega)]; intro y hy; cases hy)
            | (rw [hx] at hc; cases hc; exact le_drop ib hy e5))
          refine J.region ?_
          refine JL.go trivial (RX.movev (v := Value.slice _ _ _) rfl) ?_
          refine JL.go trivial (RX.movev (v := Value.int _ _) rfl) ?_
          refine JL.go trivial (RX.indexAddr rfl rfl sl43 (by omega) (by omega) (o' := ao + i) (by omega)) ?_
          refine JL.go trivial (RX.loadS H (SlAt.cons ha) rfl (j := i) rfl (v := .int .i64 c) (intsV_get hc) one3) ?_
          refine JL.go trivial (RX.assignv (v := Value.int _ _) rfl) ?_
          refine JL.nil ?_
          refine J.region ?_
          refine JL.go trivial (RX.movev (v := Value.int _ _) rfl) ?_
          refine JL.go trivial (RX.add rfl rfl (w_i64 (r := ((i + 1 : Nat) : Int)) (by omega) (by omega) (by omega))) ?_
          refine JL.go trivial (RX.assignv (v := Value.int _ _) rfl) ?_
          refine JL.nil ?_
          refine J.seq ?_
          refine J.region ?_
          refine JL.go trivial (RX.movev (v := Value.slice _ _ _) rfl) ?_
          refine JL.go trivial (RX.len_slice rfl (by rw [sl43]; rfl) rfl) ?_
          refine JL.go trivial (RX.eq rfl rfl) ?_
          refine JL.go trivial (RX.movev (v := Value.bool _) rfl) ?_
          refine JL.splitS 56 rfl (fun e6 => ?_) (fun e6 => ?_)
          · skip
            first | have e6p := of_decide_eq_true e6 | skip
            have hput : put out c = out ++ [c] := by
              have : out = [] := List.eq_nil_of_length_eq_zero (by have := of_decide_eq_true e6; omega)
              rw [this]; rfl
            refine JL.no ⟨_, rfl, gno e6⟩ ?_
            refine JL.no ⟨_, rfl, gno e6⟩ ?_
            refine JL.no ⟨_, rfl, gno e6⟩ ?_
            refine JL.no ⟨_, rfl, gno e6⟩ ?_
            refine JL.no ⟨_, rfl, gno e6⟩ ?_
            refine JL.no ⟨_, rfl, gno e6⟩ ?_
            refine JL.no ⟨_, rfl, gno e6⟩ ?_
            refine JL.no ⟨_, rfl, gno e6⟩ ?_
            refine JL.go trivial (RX.pick_t rfl e6) ?_
            refine JL.nil ?_
            refine J.cond_t rfl rfl ?_
            refine J.region ?_
            refine JL.go trivial (RX.movev (v := Value.slice _ _ _) rfl) ?_
            refine JL.go trivial (RX.movev (v := Value.int _ _) rfl) ?_
            refine JL.does trivial (EX.buildSlice1 (v := Value.int _ _) H elI rfl rfl) ?_
            rintro _ w ⟨br, rfl, H⟩
            refine JL.does trivial (EX.append (ys := [.int .i64 c]) (L' := fun s' => [(br, cel [.int .i64 c] 3)] :: s' :: F) H elI rfl rfl (i := 1) rfl ho (SlAt.here rfl) rfl (by simp [isCell]) (by decide) (by omega) (by omega) (fun _ => rfl)) ?_
            rintro v w ⟨p3, c3, s3, hv, ho3, H⟩
            rw [show intsV out ++ [.int .i64 c] = intsV (out ++ [c]) by rw [intsV_app]; rfl, ← hput] at ho3
            have hpl : out.length + 1 = (put out c).length := by rw [hput]; simp
            rw [hpl] at ho3 hv
            subst hv
            refine JL.go trivial (RX.assignv (v := Value.slice _ _ _) rfl) ?_
            refine JL.nil ?_
            refine J.inBlock ?_
            first
            | exact IH (i + 1, j, put out c, p3, c3, s3) _ _ (by simp only; omega) ⟨rfl, rfl, trivial⟩ ⟨rfl, rfl, rfl, trivial⟩ ⟨hst, by have := put_len (out := out) (c := c); simp only; omega, ho3, H.drop⟩
            | exact IH (i, j + 1, put out c, p3, c3, s3) _ _ (by simp only; omega) ⟨rfl, rfl, trivial⟩ ⟨rfl, rfl, rfl, trivial⟩ ⟨hst, by have := put_len (out := out) (c := c); simp only; omega, ho3, H.drop⟩
            | (rw [hput] at hst; exact IH (i + 1, j, out, _, cp, g) _ _ (by simp only; omega) ⟨rfl, rfl, trivial⟩ ⟨rfl, rfl, rfl, trivial⟩ ⟨hst, by simp only; omega, ho, H⟩)
            | (rw [hput] at hst; exact IH (i, j + 1, out, _, cp, g) _ _ (by simp only; omega) ⟨rfl, rfl, trivial⟩ ⟨rfl, rfl, rfl, trivial⟩ ⟨hst, by simp only; omega, ho, H⟩)
          · skip
            first | have e6p := of_decide_eq_false e6 | skip
            have e6p2 := of_decide_eq_false e6
            obtain ⟨g2, l2, rfl, hg2⟩ := ho.ptr (by omega)
            obtain ⟨z, hz⟩ : ∃ z, out[out.length - 1]? = some z := ⟨_, List.getElem?_eq_getElem (by omega)⟩
            refine JL.go ⟨_, rfl, e6⟩ (RX.movev (v := Value.slice _ _ _) rfl) ?_
            refine JL.go ⟨_, rfl, e6⟩ (RX.movev (v := Value.slice _ _ _) rfl) ?_
            refine JL.go ⟨_, rfl, e6⟩ (RX.len_slice rfl (by rw [sl43]; rfl) rfl) ?_
            refine JL.go ⟨_, rfl, e6⟩ (RX.sub rfl rfl (w_i64 (r := ((out.length - 1 : Nat) : Int)) (by omega) (by omega) (by omega))) ?_
            refine JL.go ⟨_, rfl, e6⟩ (RX.indexAddr rfl rfl sl43 (by omega) (by omega) (o' := out.length - 1) (by omega)) ?_
            refine JL.go ⟨_, rfl, e6⟩ (RX.loadS H ho.slAt rfl (j := out.length - 1) (by omega) (v := .int .i64 z) (intsV_get hz) one3) ?_
            refine JL.go ⟨_, rfl, e6⟩ (RX.movev (v := Value.int _ _) rfl) ?_
            refine JL.go ⟨_, rfl, e6⟩ (RX.ne rfl rfl) ?_
            refine JL.go trivial (RX.pick_f rfl e6) ?_
            refine JL.nil ?_
            refine J.cond_d rfl (fun e7 => ?_) (fun e7 => ?_)
            · skip
              have hput := put_last hz e7
              refine J.region ?_
              refine JL.go trivial (RX.movev (v := Value.slice _ _ _) rfl) ?_
              refine JL.go trivial (RX.movev (v := Value.int _ _) rfl) ?_
              refine JL.does trivial (EX.buildSlice1 (v := Value.int _ _) H elI rfl rfl) ?_
              rintro _ w ⟨br, rfl, H⟩
              refine JL.does trivial (EX.append (ys := [.int .i64 c]) (L' := fun s' => [(br, cel [.int .i64 c] 3)] :: s' :: F) H elI rfl rfl (i := 1) rfl ho (SlAt.here rfl) rfl (by simp [isCell]) (by decide) (by omega) (by omega) (fun _ => rfl)) ?_
              rintro v w ⟨p3, c3, s3, hv, ho3, H⟩
              rw [show intsV out ++ [.int .i64 c] = intsV (out ++ [c]) by rw [intsV_app]; rfl, ← hput] at ho3
              have hpl : out.length + 1 = (put out c).length := by rw [hput]; simp
              rw [hpl] at ho3 hv
              subst hv
              refine JL.go trivial (RX.assignv (v := Value.slice _ _ _) rfl) ?_
              refine JL.nil ?_
              refine J.inBlock ?_
              first
              | exact IH (i + 1, j, put out c, p3, c3, s3) _ _ (by simp only; omega) ⟨rfl, rfl, trivial⟩ ⟨rfl, rfl, rfl, trivial⟩ ⟨hst, by have := put_len (out := out) (c := c); simp only; omega, ho3, H.drop⟩
              | exact IH (i, j + 1, put out c, p3, c3, s3) _ _ (by simp only; omega) ⟨rfl, rfl, trivial⟩ ⟨rfl, rfl, rfl, trivial⟩ ⟨hst, by have := put_len (out := out) (c := c); simp only; omega, ho3, H.drop⟩
              | (rw [hput] at hst; exact IH (i + 1, j, out, _, cp, g) _ _ (by simp only; omega) ⟨rfl, rfl, trivial⟩ ⟨rfl, rfl, rfl, trivial⟩ ⟨hst, by simp only; omega, ho, H⟩)
              | (rw [hput] at hst; exact IH (i, j + 1, out, _, cp, g) _ _ (by simp only; omega) ⟨rfl, rfl, trivial⟩ ⟨rfl, rfl, rfl, trivial⟩ ⟨hst, by simp only; omega, ho, H⟩)
            · skip
              have hput := put_same hz (Decidable.not_not.1 e7)
              refine J.skip ?_
              refine J.inBlock ?_
              first
              | exact IH (i + 1, j, put out c, p3, c3, s3) _ _ (by simp only; omega) ⟨rfl, rfl, trivial⟩ ⟨rfl, rfl, rfl, trivial⟩ ⟨hst, by have := put_len (out := out) (c := c); simp only; omega, ho3, H.drop⟩
              | exact IH (i, j + 1, put out c, p3, c3, s3) _ _ (by simp only; omega) ⟨rfl, rfl, trivial⟩ ⟨rfl, rfl, rfl, trivial⟩ ⟨hst, by have := put_len (out := out) (c := c); simp only; omega, ho3, H.drop⟩
              | (rw [hput] at hst; exact IH (i + 1, j, out, _, cp, g) _ _ (by simp only; omega) ⟨rfl, rfl, trivial⟩ ⟨rfl, rfl, rfl, trivial⟩ ⟨hst, by simp only; omega, ho, H⟩)
              | (rw [hput] at hst; exact IH (i, j + 1, out, _, cp, g) _ _ (by simp only; omega) ⟨rfl, rfl, trivial⟩ ⟨rfl, rfl, rfl, trivial⟩ ⟨hst, by simp only; omega, ho, H⟩)
        · skip
          refine J.seq ?_
          obtain ⟨c, hc⟩ : ∃ c, b[j]? = some c := ⟨_, List.getElem?_eq_getElem (by have := of_decide_eq_false e3; omega)⟩
          have hst := hbi.stepb ib hc (by
            first
            | (rw [hy] at hc; cases hc; exact le_drop ia hx (by omega))
            | (have := of_decide_eq_false e4; rw [List.drop_eq_nil_of_le (by omega)]; intro y hy; cases hy))
          refine J.region ?_
          refine JL.go trivial (RX.movev (v := Value.slice _ _ _) rfl) ?_
          refine JL.go trivial (RX.movev (v := Value.int _ _) rfl) ?_
          refine JL.go trivial (RX.indexAddr rfl rfl sl43 (by omega) (by omega) (o' := bo + j) (by omega)) ?_
          refine JL.go trivial (RX.loadS H (SlAt.cons hb) rfl (j := j) rfl (v := .int .i64 c) (intsV_get hc) one3) ?_
          refine JL.go trivial (RX.assignv (v := Value.int _ _) rfl) ?_
          refine JL.nil ?_
          refine J.region ?_
          refine JL.go trivial (RX.movev (v := Value.int _ _) rfl) ?_
          refine JL.go trivial (RX.add rfl rfl (w_i64 (r := ((j + 1 : Nat) : Int)) (by omega) (by omega) (by omega))) ?_
          refine JL.go trivial (RX.assignv (v := Value.int _ _) rfl) ?_
          refine JL.nil ?_
          refine J.seq ?_
          refine J.region ?_
          refine JL.go trivial (RX.movev (v := Value.slice _ _ _) rfl) ?_
          refine JL.go trivial (RX.len_slice rfl (by rw [sl43]; rfl) rfl) ?_
          refine JL.go trivial (RX.eq rfl rfl) ?_
          refine JL.go trivial (RX.movev (v := Value.bool _) rfl) ?_
          refine JL.splitS 56 rfl (fun e6 => ?_) (fun e6 => ?_)
          · skip
            first | have e6p := of_decide_eq_true e6 | skip
            have hput : put out c = out ++ [c] := by
              have : out = [] := List.eq_nil_of_length_eq_zero (by have := of_decide_eq_true e6; omega)
              rw [this]; rfl
            refine JL.no ⟨_, rfl, gno e6⟩ ?_
            refine JL.no ⟨_, rfl, gno e6⟩ ?_
            refine JL.no ⟨_, rfl, gno e6⟩ ?_
            refine JL.no ⟨_, rfl, gno e6⟩ ?_
            refine JL.no ⟨_, rfl, gno e6⟩ ?_
            refine JL.no ⟨_, rfl, gno e6⟩ ?_
            refine JL.no ⟨_, rfl, gno e6⟩ ?_
            refine JL.no ⟨_, rfl, gno e6⟩ ?_
            refine JL.go trivial (RX.pick_t rfl e6) ?_
            refine JL.nil ?_
            refine J.cond_t rfl rfl ?_
            refine J.region ?_
            refine JL.go trivial (RX.movev (v := Value.slice _ _ _) rfl) ?_
            refine JL.go trivial (RX.movev (v := Value.int _ _) rfl) ?_
            refine JL.does trivial (EX.buildSlice1 (v := Value.int _ _) H elI rfl rfl) ?_
            rintro _ w ⟨br, rfl, H⟩
            refine JL.does trivial (EX.append (ys := [.int .i64 c]) (L' := fun s' => [(br, cel [.int .i64 c] 3)] :: s' :: F) H elI rfl rfl (i := 1) rfl ho (SlAt.here rfl) rfl (by simp [isCell]) (by decide) (by omega) (by omega) (fun _ => rfl)) ?_
            rintro v w ⟨p3, c3, s3, hv, ho3, H⟩
            rw [show intsV out ++ [.int .i64 c] = intsV (out ++ [c]) by rw [intsV_app]; rfl, ← hput] at ho3
            have hpl : out.length + 1 = (put out c).length := by rw [hput]; simp
            rw [hpl] at ho3 hv
            subst hv
            refine JL.go trivial (RX.assignv (v := Value.slice _ _ _) rfl) ?_
            refine JL.nil ?_
            refine J.inBlock ?_
            first
            | exact IH (i + 1, j, put out c, p3, c3, s3) _ _ (by simp only; omega) ⟨rfl, rfl, trivial⟩ ⟨rfl, rfl, rfl, trivial⟩ ⟨hst, by have := put_len (out := out) (c := c); simp only; omega, ho3, H.drop⟩
            | exact IH (i, j + 1, put out c, p3, c3, s3) _ _ (by simp only; omega) ⟨rfl, rfl, trivial⟩ ⟨rfl, rfl, rfl, trivial⟩ ⟨hst, by have := put_len (out := out) (c := c); simp only; omega, ho3, H.drop⟩
            | (rw [hput] at hst; exact IH (i + 1, j, out, _, cp, g) _ _ (by simp only; omega) ⟨rfl, rfl, trivial⟩ ⟨rfl, rfl, rfl, trivial⟩ ⟨hst, by simp only; omega, ho, H⟩)
            | (rw [hput] at hst; exact IH (i, j + 1, out, _, cp, g) _ _ (by simp only; omega) ⟨rfl, rfl, trivial⟩ ⟨rfl, rfl, rfl, trivial⟩ ⟨hst, by simp only; omega, ho, H⟩)
          · skip
            first | have e6p := of_decide_eq_false e6 | skip
            have e6p2 := of_decide_eq_false e6
            obtain ⟨g2, l2, rfl, hg2⟩ := ho.ptr (by omega)
            obtain ⟨z, hz⟩ : ∃ z, out[out.length - 1]? = some z := ⟨_, List.getElem?_eq_getElem (by omega)⟩
            refine JL.go ⟨_, rfl, e6⟩ (RX.movev (v := Value.slice _ _ _) rfl) ?_
            refine JL.go ⟨_, rfl, e6⟩ (RX.movev (v := Value.slice _ _ _) rfl) ?_
            refine JL.go ⟨_, rfl, e6⟩ (RX.len_slice rfl (by rw [sl43]; rfl) rfl) ?_
            refine JL.go ⟨_, rfl, e6⟩ (RX.sub rfl rfl (w_i64 (r := ((out.length - 1 : Nat) : Int)) (by omega) (by omega) (by omega))) ?_
            refine JL.go ⟨_, rfl, e6⟩ (RX.indexAddr rfl rfl sl43 (by omega) (by omega) (o' := out.length - 1) (by omega)) ?_
            refine JL.go ⟨_, rfl, e6⟩ (RX.loadS H ho.slAt rfl (j := out.length - 1) (by omega) (v := .int .i64 z) (intsV_get hz) one3) ?_
            refine JL.go ⟨_, rfl, e6⟩ (RX.movev (v := Value.int _ _) rfl) ?_
            refine JL.go ⟨_, rfl, e6⟩ (RX.ne rfl rfl) ?_
            refine JL.go trivial (RX.pick_f rfl e6) ?_
            refine JL.nil ?_
            refine J.cond_d rfl (fun e7 => ?_) (fun e7 => ?_)
            · skip
              have hput := put_last hz e7
              refine J.region ?_
              refine JL.go trivial (RX.movev (v := Value.slice _ _ _) rfl) ?_
              refine JL.go trivial (RX.movev (v := Value.int _ _) rfl) ?_
              refine JL.does trivial (EX.buildSlice1 (v := Value.int _ _) H elI rfl rfl) ?_
              rintro _ w ⟨br, rfl, H⟩
              refine JL.does trivial (EX.append (ys := [.int .i64 c]) (L' := fun s' => [(br, cel [.int .i64 c] 3)] :: s' :: F) H elI rfl rfl (i := 1) rfl ho (SlAt.here rfl) rfl (by simp [isCell]) (by decide) (by omega) (by omega) (fun _ => rfl)) ?_
              rintro v w ⟨p3, c3, s3, hv, ho3, H⟩
              rw [show intsV out ++ [.int .i64 c] = intsV (out ++ [c]) by rw [intsV_app]; rfl, ← hput] at ho3
              have hpl : out.length + 1 = (put out c).length := by rw [hput]; simp
              rw [hpl] at ho3 hv
              subst hv
              refine JL.go trivial (RX.assignv (v := Value.slice _ _ _) rfl) ?_
              refine JL.nil ?_
              refine J.inBlock ?_
              first
              | exact IH (i + 1, j, put out c, p3, c3, s3) _ _ (by simp only; omega) ⟨rfl, rfl, trivial⟩ ⟨rfl, rfl, rfl, trivial⟩ ⟨hst, by have := put_len (out := out) (c := c); simp only; omega, ho3, H.drop⟩
              | exact IH (i, j + 1, put out c, p3, c3, s3) _ _ (by simp only; omega) ⟨rfl, rfl, trivial⟩ ⟨rfl, rfl, rfl, trivial⟩ ⟨hst, by have := put_len (out := out) (c := c); simp only; omega, ho3, H.drop⟩
              | (rw [hput] at hst; exact IH (i + 1, j, out, _, cp, g) _ _ (by simp only; omega) ⟨rfl, rfl, trivial⟩ ⟨rfl, rfl, rfl, trivial⟩ ⟨hst, by simp only; omega, ho, H⟩)
              | (rw [hput] at hst; exact IH (i, j + 1, out, _, cp, g) _ _ (by simp only; omega) ⟨rfl, rfl, trivial⟩ ⟨rfl, rfl, rfl, trivial⟩ ⟨hst, by simp only; omega, ho, H⟩)
            · skip
              have hput := put_same hz (Decidable.not_not.1 e7)
              refine J.skip ?_
              refine J.inBlock ?_
              first
              | exact IH (i + 1, j, put out c, p3, c3, s3) _ _ (by simp only; omega) ⟨rfl, rfl, trivial⟩ ⟨rfl, rfl, rfl, trivial⟩ ⟨hst, by have := put_len (out := out) (c := c); simp only; omega, ho3, H.drop⟩
              | exact IH (i, j + 1, put out c, p3, c3, s3) _ _ (by simp only; omega) ⟨rfl, rfl, trivial⟩ ⟨rfl, rfl, rfl, trivial⟩ ⟨hst, by have := put_len (out := out) (c := c); simp only; omega, ho3, H.drop⟩
              | (rw [hput] at hst; exact IH (i + 1, j, out, _, cp, g) _ _ (by simp only; omega) ⟨rfl, rfl, trivial⟩ ⟨rfl, rfl, rfl, trivial⟩ ⟨hst, by simp only; omega, ho, H⟩)
              | (rw [hput] at hst; exact IH (i, j + 1, out, _, cp, g) _ _ (by simp only; omega) ⟨rfl, rfl, trivial⟩ ⟨rfl, rfl, rfl, trivial⟩ ⟨hst, by simp only; omega, ho, H⟩)
      · skip
        first | have e4p := of_decide_eq_false e4 | skip
        refine JQ.no ⟨_, rfl, gno e4⟩ ?_
        refine JQ.no ⟨_, rfl, gno e4⟩ ?_
        refine JQ.no ⟨_, rfl, gno e4⟩ ?_
        refine JQ.no ⟨_, rfl, gno e4⟩ ?_
        refine JQ.no ⟨_, rfl, gno e4⟩ ?_
        refine JQ.no ⟨_, rfl, gno e4⟩ ?_
        refine JQ.no ⟨_, rfl, gno e4⟩ ?_
        refine JQ.no ⟨_, rfl, gno e4⟩ ?_
        refine JQ.no ⟨_, rfl, gno e4⟩ ?_
        refine JQ.go ⟨_, rfl, e3⟩ (fun w H => RX.pick_f rfl e4) ?_
        refine JQ.go trivial (fun w H => RX.pick_f rfl e3) ?_
        refine JQ.nil fun w H => ?_
        refine J.cond_f rfl rfl ?_
        refine J.seq ?_
        obtain ⟨c, hc⟩ : ∃ c, b[j]? = some c := ⟨_, List.getElem?_eq_getElem (by have := of_decide_eq_false e3; omega)⟩
        have hst := hbi.stepb ib hc (by
          first
          | (rw [hy] at hc; cases hc; exact le_drop ia hx (by omega))
          | (have := of_decide_eq_false e4; rw [List.drop_eq_nil_of_le (by omega)]; intro y hy; cases hy))
        refine J.region ?_
        refine JL.go trivial (RX.movev (v := Value.slice _ _ _) rfl) ?_
        refine JL.go trivial (RX.movev (v := Value.int _ _) rfl) ?_
        refine JL.go trivial (RX.indexAddr rfl rfl sl43 (by omega) (by omega) (o' := bo + j) (by omega)) ?_
        refine JL.go trivial (RX.loadS H (SlAt.cons hb) rfl (j := j) rfl (v := .int .i64 c) (intsV_get hc) one3) ?_
        refine JL.go trivial (RX.assignv (v := Value.int _ _) rfl) ?_
        refine JL.nil ?_
        refine J.region ?_
        refine JL.go trivial (RX.movev (v := Value.int _ _) rfl) ?_
        refine JL.go trivial (RX.add rfl rfl (w_i64 (r := ((j + 1 : Nat) : Int)) (by omega) (by omega) (by omega))) ?_
        refine JL.go trivial (RX.assignv (v := Value.int _ _) rfl) ?_
        refine JL.nil ?_
        refine J.seq ?_
        refine J.region ?_
        refine JL.go trivial (RX.movev (v := Value.slice _ _ _) rfl) ?_
        refine JL.go trivial (RX.len_slice rfl (by rw [sl43]; rfl) rfl) ?_
        refine JL.go trivial (RX.eq rfl rfl) ?_
        refine JL.go trivial (RX.movev (v := Value.bool _) rfl) ?_
        refine JL.splitS 56 rfl (fun e6 => ?_) (fun e6 => ?_)
        · skip
          first | have e6p := of_decide_eq_true e6 | skip
          have hput : put out c = out ++ [c] := by
            have : out = [] := List.eq_nil_of_length_eq_zero (by have := of_decide_eq_true e6; omega)
            rw [this]; rfl
          refine JL.no ⟨_, rfl, gno e6⟩ ?_
          refine JL.no ⟨_, rfl, gno e6⟩ ?_
          refine JL.no ⟨_, rfl, gno e6⟩ ?_
          refine JL.no ⟨_, rfl, gno e6⟩ ?_
          refine JL.no ⟨_, rfl, gno e6⟩ ?_
          refine JL.no ⟨_, rfl, gno e6⟩ ?_
          refine JL.no ⟨_, rfl, gno e6⟩ ?_
          refine JL.no ⟨_, rfl, gno e6⟩ ?_
          refine JL.go trivial (RX.pick_t rfl e6) ?_
          refine JL.nil ?_
          refine J.cond_t rfl rfl ?_
          refine J.region ?_
          refine JL.go trivial (RX.movev (v := Value.slice _ _ _) rfl) ?_
          refine JL.go trivial (RX.movev (v := Value.int _ _) rfl) ?_
          refine JL.does trivial (EX.buildSlice1 (v := Value.int _ _) H elI rfl rfl) ?_
          rintro _ w ⟨br, rfl, H⟩
          refine JL.does trivial (EX.append (ys := [.int .i64 c]) (L' := fun s' => [(br, cel [.int .i64 c] 3)] :: s' :: F) H elI rfl rfl (i := 1) rfl ho (SlAt.here rfl) rfl (by simp [isCell]) (by decide) (by omega) (by omega) (fun _ => rfl)) ?_
          rintro v w ⟨p3, c3, s3, hv, ho3, H⟩
          rw [show intsV out ++ [.int .i64 c] = intsV (out ++ [c]) by rw [intsV_app]; rfl, ← hput] at ho3
          have hpl : out.length + 1 = (put out c).length := by rw [hput]; simp
          rw [hpl] at ho3 hv
          subst hv
          refine JL.go trivial (RX.assignv (v := Value.slice _ _ _) rfl) ?_
          refine JL.nil ?_
          refine J.inBlock ?_
          first
          | exact IH (i + 1, j, put out c, p3, c3, s3) _ _ (by simp only; omega) ⟨rfl, rfl, trivial⟩ ⟨rfl, rfl, rfl, trivial⟩ ⟨hst, by have := put_len (out := out) (c := c); simp only; omega, ho3, H.drop⟩
          | exact IH (i, j + 1, put out c, p3, c3, s3) _ _ (by simp only; omega) ⟨rfl, rfl, trivial⟩ ⟨rfl, rfl, rfl, trivial⟩ ⟨hst, by have := put_len (out := out) (c := c); simp only; omega, ho3, H.drop⟩
          | (rw [hput] at hst; exact IH (i + 1, j, out, _, cp, g) _ _ (by simp only; omega) ⟨rfl, rfl, trivial⟩ ⟨rfl, rfl, rfl, trivial⟩ ⟨hst, by simp only; omega, ho, H⟩)
          | (rw [hput] at hst; exact IH (i, j + 1, out, _, cp, g) _ _ (by simp only; omega) ⟨rfl, rfl, trivial⟩ ⟨rfl, rfl, rfl, trivial⟩ ⟨hst, by simp only; omega, ho, H⟩)
        · skip
          first | have e6p := of_decide_eq_false e6 | skip
          have e6p2 := of_decide_eq_false e6
          obtain ⟨g2, l2, rfl, hg2⟩ := ho.ptr (by omega)
          obtain ⟨z, hz⟩ : ∃ z, out[out.length - 1]? = some z := ⟨_, List.getElem?_eq_getElem (by omega)⟩
          refine JL.go ⟨_, rfl, e6⟩ (RX.movev (v := Value.slice _ _ _) rfl) ?_
          refine JL.go ⟨_, rfl, e6⟩ (RX.movev (v := Value.slice _ _ _) rfl) ?_
          refine JL.go ⟨_, rfl, e6⟩ (RX.len_slice rfl (by rw [sl43]; rfl) rfl) ?_
          refine JL.go ⟨_, rfl, e6⟩ (RX.sub rfl rfl (w_i64 (r := ((out.length - 1 : Nat) : Int)) (by omega) (by omega) (by omega))) ?_
          refine JL.go ⟨_, rfl, e6⟩ (RX.indexAddr rfl rfl sl43 (by omega) (by omega) (o' := out.length - 1) (by omega)) ?_
          refine JL.go ⟨_, rfl, e6⟩ (RX.loadS H ho.slAt rfl (j := out.length - 1) (by omega) (v := .int .i64 z) (intsV_get hz) one3) ?_
          refine JL.go ⟨_, rfl, e6⟩ (RX.movev (v := Value.int _ _) rfl) ?_
          refine JL.go ⟨_, rfl, e6⟩ (RX.ne rfl rfl) ?_
          refine JL.go trivial (RX.pick_f rfl e6) ?_
          refine JL.nil ?_
          refine J.cond_d rfl (fun e7 => ?_) (fun e7 => ?_)
          · skip
            have hput := put_last hz e7
            refine J.region ?_
            refine JL.go trivial (RX.movev (v := Value.slice _ _ _) rfl) ?_
            refine JL.go trivial (RX.movev (v := Value.int _ _) rfl) ?_
            refine JL.does trivial (EX.buildSlice1 (v := Value.int _ _) H elI rfl rfl) ?_
            rintro _ w ⟨br, rfl, H⟩
            refine JL.does trivial (EX.append (ys := [.int .i64 c]) (L' := fun s' => [(br, cel [.int .i64 c] 3)] :: s' :: F) H elI rfl rfl (i := 1) rfl ho (SlAt.here rfl) rfl (by simp [isCell]) (by decide) (by omega) (by omega) (fun _ => rfl)) ?_
            rintro v w ⟨p3, c3, s3, hv, ho3, H⟩
            rw [show intsV out ++ [.int .i64 c] = intsV (out ++ [c]) by rw [intsV_app]; rfl, ← hput] at ho3
            have hpl : out.length + 1 = (put out c).length := by rw [hput]; simp
            rw [hpl] at ho3 hv
            subst hv
            refine JL.go trivial (RX.assignv (v := Value.slice _ _ _) rfl) ?_
            refine JL.nil ?_
            refine J.inBlock ?_
            first
            | exact IH (i + 1, j, put out c, p3, c3, s3) _ _ (by simp only; omega) ⟨rfl, rfl, trivial⟩ ⟨rfl, rfl, rfl, trivial⟩ ⟨hst, by have := put_len (out := out) (c := c); simp only; omega, ho3, H.drop⟩
            | exact IH (i, j + 1, put out c, p3, c3, s3) _ _ (by simp only; omega) ⟨rfl, rfl, trivial⟩ ⟨rfl, rfl, rfl, trivial⟩ ⟨hst, by have := put_len (out := out) (c := c); simp only; omega, ho3, H.drop⟩
            | (rw [hput] at hst; exact IH (i + 1, j, out, _, cp, g) _ _ (by simp only; omega) ⟨rfl, rfl, trivial⟩ ⟨rfl, rfl, rfl, trivial⟩ ⟨hst, by simp only; omega, ho, H⟩)
            | (rw [hput] at hst; exact IH (i, j + 1, out, _, cp, g) _ _ (by simp only; omega) ⟨rfl, rfl, trivial⟩ ⟨rfl, rfl, rfl, trivial⟩ ⟨hst, by simp only; omega, ho, H⟩)
          · skip
            have hput := put_same hz (Decidable.not_not.1 e7)
            refine J.skip ?_
            refine J.inBlock ?_
            first
            | exact IH (i + 1, j, put out c, p3, c3, s3) _ _ (by simp only; omega) ⟨rfl, rfl, trivial⟩ ⟨rfl, rfl, rfl, trivial⟩ ⟨hst, by have := put_len (out := out) (c := c); simp only; omega, ho3, H.drop⟩
            | exact IH (i, j + 1, put out c, p3, c3, s3) _ _ (by simp only; omega) ⟨rfl, rfl, trivial⟩ ⟨rfl, rfl, rfl, trivial⟩ ⟨hst, by have := put_len (out := out) (c := c); simp only; omega, ho3, H.drop⟩
            | (rw [hput] at hst; exact IH (i + 1, j, out, _, cp, g) _ _ (by simp only; omega) ⟨rfl, rfl, trivial⟩ ⟨rfl, rfl, rfl, trivial⟩ ⟨hst, by simp only; omega, ho, H⟩)
            | (rw [hput] at hst; exact IH (i, j + 1, out, _, cp, g) _ _ (by simp only; omega) ⟨rfl, rfl, trivial⟩ ⟨rfl, rfl, rfl, trivial⟩ ⟨hst, by simp only; omega, ho, H⟩)
  · skip
    first | have e1p := of_decide_eq_false e1 | skip
    refine JL.go ⟨_, rfl, e1⟩ (RX.movev (v := Value.int _ _) rfl) ?_
    refine JL.go ⟨_, rfl, e1⟩ (RX.movev (v := Value.slice _ _ _) rfl) ?_
    refine JL.go ⟨_, rfl, e1⟩ (RX.len_slice rfl (by rw [sl43]; rfl) rfl) ?_
    refine JL.go ⟨_, rfl, e1⟩ (RX.lt rfl rfl) ?_
    refine JL.go trivial (RX.pick_f rfl e1) ?_
    refine JL.nil ?_
    refine J.cond_d rfl (fun e2 => ?_) (fun e2 => ?_)
    · skip
      refine J.skip ?_
      refine J.block ?_
      refine J.seq ?_
      refine J.region ?_
      refine JL.go trivial (RX.assign) ?_
      refine JL.nil ?_
      refine J.seq ?_
      refine J.seq ?_
      refine J.quietH H hmix (by kernel_rfl) ?_
      refine JQ.go trivial (fun w H => RX.movev (v := Value.int _ _) rfl) ?_
      refine JQ.go trivial (fun w H => RX.movev (v := Value.slice _ _ _) rfl) ?_
      refine JQ.go trivial (fun w H => RX.len_slice rfl (by rw [sl43]; rfl) rfl) ?_
      refine JQ.go trivial (fun w H => RX.eq rfl rfl) ?_
      refine JQ.go trivial (fun w H => RX.movev (v := Value.bool _) rfl) ?_
      refine JQ.splitS 24 rfl (fun e3 => ?_) (fun e3 => ?_)
      · skip
        first | have e3p := of_decide_eq_true e3 | skip
        exfalso
        have := of_decide_eq_true e3
        omega
      · skip
        first | have e3p := of_decide_eq_false e3 | skip
        refine JQ.go ⟨_, rfl, e3⟩ (fun w H => RX.movev (v := Value.int _ _) rfl) ?_
        refine JQ.go ⟨_, rfl, e3⟩ (fun w H => RX.movev (v := Value.slice _ _ _) rfl) ?_
        refine JQ.go ⟨_, rfl, e3⟩ (fun w H => RX.len_slice rfl (by rw [sl43]; rfl) rfl) ?_
        refine JQ.go ⟨_, rfl, e3⟩ (fun w H => RX.lt rfl rfl) ?_
        refine JQ.go ⟨_, rfl, e3⟩ (fun w H => RX.movev (v := Value.bool _) rfl) ?_
        refine JQ.splitS 29 rfl (fun e4 => ?_) (fun e4 => ?_)
        · skip
          first | have e4p := of_decide_eq_true e4 | skip
          exfalso
          have := of_decide_eq_true e4
          have := of_decide_eq_false e1
          omega
        · skip
          first | have e4p := of_decide_eq_false e4 | skip
          refine JQ.no ⟨_, rfl, gno e4⟩ ?_
          refine JQ.no ⟨_, rfl, gno e4⟩ ?_
          refine JQ.no ⟨_, rfl, gno e4⟩ ?_
          refine JQ.no ⟨_, rfl, gno e4⟩ ?_
          refine JQ.no ⟨_, rfl, gno e4⟩ ?_
          refine JQ.no ⟨_, rfl, gno e4⟩ ?_
          refine JQ.no ⟨_, rfl, gno e4⟩ ?_
          refine JQ.no ⟨_, rfl, gno e4⟩ ?_
          refine JQ.no ⟨_, rfl, gno e4⟩ ?_
          refine JQ.go ⟨_, rfl, e3⟩ (fun w H => RX.pick_f rfl e4) ?_
          refine JQ.go trivial (fun w H => RX.pick_f rfl e3) ?_
          refine JQ.nil fun w H => ?_
          refine J.cond_f rfl rfl ?_
          refine J.seq ?_
          obtain ⟨c, hc⟩ : ∃ c, b[j]? = some c := ⟨_, List.getElem?_eq_getElem (by have := of_decide_eq_false e3; omega)⟩
          have hst := hbi.stepb ib hc (by
            first
            | (rw [hy] at hc; cases hc; exact le_drop ia hx (by omega))
            | (have := of_decide_eq_false e4; rw [List.drop_eq_nil_of_le (by omega)]; intro y hy; cases hy))
          refine J.region ?_
          refine JL.go trivial (RX.movev (v := Value.slice _ _ _) rfl) ?_
          refine JL.go trivial (RX.movev (v := Value.int _ _) rfl) ?_
          refine JL.go trivial (RX.indexAddr rfl rfl sl43 (by omega) (by omega) (o' := bo + j) (by omega)) ?_
          refine JL.go trivial (RX.loadS H (SlAt.cons hb) rfl (j := j) rfl (v := .int .i64 c) (intsV_get hc) one3) ?_
          refine JL.go trivial (RX.assignv (v := Value.int _ _) rfl) ?_
          refine JL.nil ?_
          refine J.region ?_
          refine JL.go trivial (RX.movev (v := Value.int _ _) rfl) ?_
          refine JL.go trivial (RX.add rfl rfl (w_i64 (r := ((j + 1 : Nat) : Int)) (by omega) (by omega) (by omega))) ?_
          refine JL.go trivial (RX.assignv (v := Value.int _ _) rfl) ?_
          refine JL.nil ?_
          refine J.seq ?_
          refine J.region ?_
          refine JL.go trivial (RX.movev (v := Value.slice _ _ _) rfl) ?_
          refine JL.go trivial (RX.len_slice rfl (by rw [sl43]; rfl) rfl) ?_
          refine JL.go trivial (RX.eq rfl rfl) ?_
          refine JL.go trivial (RX.movev (v := Value.bool _) rfl) ?_
          refine JL.splitS 56 rfl (fun e6 => ?_) (fun e6 => ?_)
          · skip
            first | have e6p := of_decide_eq_true e6 | skip
            have hput : put out c = out ++ [c] := by
              have : out = [] := List.eq_nil_of_length_eq_zero (by have := of_decide_eq_true e6; omega)
              rw [this]; rfl
            refine JL.no ⟨_, rfl, gno e6⟩ ?_
            refine JL.no ⟨_, rfl, gno e6⟩ ?_
            refine JL.no ⟨_, rfl, gno e6⟩ ?_
            refine JL.no ⟨_, rfl, gno e6⟩ ?_
            refine JL.no ⟨_, rfl, gno e6⟩ ?_
            refine JL.no ⟨_, rfl, gno e6⟩ ?_
            refine JL.no ⟨_, rfl, gno e6⟩ ?_
            refine JL.no ⟨_, rfl, gno e6⟩ ?_
            refine JL.go trivial (RX.pick_t rfl e6) ?_
            refine JL.nil ?_
            refine J.cond_t rfl rfl ?_
            refine J.region ?_
            refine JL.go trivial (RX.movev (v := Value.slice _ _ _) rfl) ?_
            refine JL.go trivial (RX.movev (v := Value.int _ _) rfl) ?_
            refine JL.does trivial (EX.buildSlice1 (v := Value.int _ _) H elI rfl rfl) ?_
            rintro _ w ⟨br, rfl, H⟩
            refine JL.does trivial (EX.append (ys := [.int .i64 c]) (L' := fun s' => [(br, cel [.int .i64 c] 3)] :: s' :: F) H elI rfl rfl (i := 1) rfl ho (SlAt.here rfl) rfl (by simp [isCell]) (by decide) (by omega) (by omega) (fun _ => rfl)) ?_
            rintro v w ⟨p3, c3, s3, hv, ho3, H⟩
            rw [show intsV out ++ [.int .i64 c] = intsV (out ++ [c]) by rw [intsV_app]; rfl, ← hput] at ho3
            have hpl : out.length + 1 = (put out c).length := by rw [hput]; simp
            rw [hpl] at ho3 hv
            subst hv
            refine JL.go trivial (RX.assignv (v := Value.slice _ _ _) rfl) ?_
            refine JL.nil ?_
            refine J.inBlock ?_
            first
            | exact IH (i + 1, j, put out c, p3, c3, s3) _ _ (by simp only; omega) ⟨rfl, rfl, trivial⟩ ⟨rfl, rfl, rfl, trivial⟩ ⟨hst, by have := put_len (out := out) (c := c); simp only; omega, ho3, H.drop⟩
            | exact IH (i, j + 1, put out c, p3, c3, s3) _ _ (by simp only; omega) ⟨rfl, rfl, trivial⟩ ⟨rfl, rfl, rfl, trivial⟩ ⟨hst, by have := put_len (out := out) (c := c); simp only; omega, ho3, H.drop⟩
            | (rw [hput] at hst; exact IH (i + 1, j, out, _, cp, g) _ _ (by simp only; omega) ⟨rfl, rfl, trivial⟩ ⟨rfl, rfl, rfl, trivial⟩ ⟨hst, by simp only; omega, ho, H⟩)
            | (rw [hput] at hst; exact IH (i, j + 1, out, _, cp, g) _ _ (by simp only; omega) ⟨rfl, rfl, trivial⟩ ⟨rfl, rfl, rfl, trivial⟩ ⟨hst, by simp only; omega, ho, H⟩)
          · skip
            first | have e6p := of_decide_eq_false e6 | skip
            have e6p2 := of_decide_eq_false e6
            obtain ⟨g2, l2, rfl, hg2⟩ := ho.ptr (by omega)
            obtain ⟨z, hz⟩ : ∃ z, out[out.length - 1]? = some z := ⟨_, List.getElem?_eq_getElem (by omega)⟩
            refine JL.go ⟨_, rfl, e6⟩ (RX.movev (v := Value.slice _ _ _) rfl) ?_
            refine JL.go ⟨_, rfl, e6⟩ (RX.movev (v := Value.slice _ _ _) rfl) ?_
            refine JL.go ⟨_, rfl, e6⟩ (RX.len_slice rfl (by rw [sl43]; rfl) rfl) ?_
            refine JL.go ⟨_, rfl, e6⟩ (RX.sub rfl rfl (w_i64 (r := ((out.length - 1 : Nat) : Int)) (by omega) (by omega) (by omega))) ?_
            refine JL.go ⟨_, rfl, e6⟩ (RX.indexAddr rfl rfl sl43 (by omega) (by omega) (o' := out.length - 1) (by omega)) ?_
            refine JL.go ⟨_, rfl, e6⟩ (RX.loadS H ho.slAt rfl (j := out.length - 1) (by omega) (v := .int .i64 z) (intsV_get hz) one3) ?_
            refine JL.go ⟨_, rfl, e6⟩ (RX.movev (v := Value.int _ _) rfl) ?_
            refine JL.go ⟨_, rfl, e6⟩ (RX.ne rfl rfl) ?_
            refine JL.go trivial (RX.pick_f rfl e6) ?_
            refine JL.nil ?_
            refine J.cond_d rfl (fun e7 => ?_) (fun e7 => ?_)
            · skip
              have hput := put_last hz e7
              refine J.region ?_
              refine JL.go trivial (RX.movev (v := Value.slice _ _ _) rfl) ?_
              refine JL.go trivial (RX.movev (v := Value.int _ _) rfl) ?_
              refine JL.does trivial (EX.buildSlice1 (v := Value.int _ _) H elI rfl rfl) ?_
              rintro _ w ⟨br, rfl, H⟩
              refine JL.does trivial (EX.append (ys := [.int .i64 c]) (L' := fun s' => [(br, cel [.int .i64 c] 3)] :: s' :: F) H elI rfl rfl (i := 1) rfl ho (SlAt.here rfl) rfl (by simp [isCell]) (by decide) (by omega) (by omega) (fun _ => rfl)) ?_
              rintro v w ⟨p3, c3, s3, hv, ho3, H⟩
              rw [show intsV out ++ [.int .i64 c] = intsV (out ++ [c]) by rw [intsV_app]; rfl, ← hput] at ho3
              have hpl : out.length + 1 = (put out c).length := by rw [hput]; simp
              rw [hpl] at ho3 hv
              subst hv
              refine JL.go trivial (RX.assignv (v := Value.slice _ _ _) rfl) ?_
              refine JL.nil ?_
              refine J.inBlock ?_
              first
              | exact IH (i + 1, j, put out c, p3, c3, s3) _ _ (by simp only; omega) ⟨rfl, rfl, trivial⟩ ⟨rfl, rfl, rfl, trivial⟩ ⟨hst, by have := put_len (out := out) (c := c); simp only; omega, ho3, H.drop⟩
              | exact IH (i, j + 1, put out c, p3, c3, s3) _ _ (by simp only; omega) ⟨rfl, rfl, trivial⟩ ⟨rfl, rfl, rfl, trivial⟩ ⟨hst, by have := put_len (out := out) (c := c); simp only; omega, ho3, H.drop⟩
              | (rw [hput] at hst; exact IH (i + 1, j, out, _, cp, g) _ _ (by simp only; omega) ⟨rfl, rfl, trivial⟩ ⟨rfl, rfl, rfl, trivial⟩ ⟨hst, by simp only; omega, ho, H⟩)
              | (rw [hput] at hst; exact IH (i, j + 1, out, _, cp, g) _ _ (by simp only; omega) ⟨rfl, rfl, trivial⟩ ⟨rfl, rfl, rfl, trivial⟩ ⟨hst, by simp only; omega, ho, H⟩)
            · skip
              have hput := put_same hz (Decidable.not_not.1 e7)
              refine J.skip ?_
              refine J.inBlock ?_
              first
              | exact IH (i + 1, j, put out c, p3, c3, s3) _ _ (by simp only; omega) ⟨rfl, rfl, trivial⟩ ⟨rfl, rfl, rfl, trivial⟩ ⟨hst, by have := put_len (out := out) (c := c); simp only; omega, ho3, H.drop⟩
              | exact IH (i, j + 1, put out c, p3, c3, s3) _ _ (by simp only; omega) ⟨rfl, rfl, trivial⟩ ⟨rfl, rfl, rfl, trivial⟩ ⟨hst, by have := put_len (out := out) (c := c); simp only; omega, ho3, H.drop⟩
              | (rw [hput] at hst; exact IH (i + 1, j, out, _, cp, g) _ _ (by simp only; omega) ⟨rfl, rfl, trivial⟩ ⟨rfl, rfl, rfl, trivial⟩ ⟨hst, by simp only; omega, ho, H⟩)
              | (rw [hput] at hst; exact IH (i, j + 1, out, _, cp, g) _ _ (by simp only; omega) ⟨rfl, rfl, trivial⟩ ⟨rfl, rfl, rfl, trivial⟩ ⟨hst, by simp only; omega, ho, H⟩)
    · skip
      refine J.exit rfl ?_
      refine J.seq ?_
      refine J.region ?_
      refine JL.go trivial (RX.movev (v := Value.slice _ _ _) rfl) ?_
      refine JL.go trivial (RX.assignv (v := Value.slice _ _ _) rfl) ?_
      refine JL.nil ?_
      refine J.ret1 (v := Value.slice _ _ _) Tryd.func35 rfl rfl ?_
      have e1p2 := of_decide_eq_false e1
      exact ⟨_, rfl, out, p, cp, g, rfl, ho, hbi.inc, hbi.fin (by omega) (by omega), H⟩
set_option maxHeartbeats 1600000 in
theorem Touched_r {w0 w : World} {F : List Seg} (H : Hp w0 w F) {s : Stp} (hs : s.Ok) : Ret Tryd.prog 20 [.agg s.v.toArray] w fun v w' => ∃ p1 c1 p2 c2 sg, v = .tuple #[.slice p1 (tR s).length c1, .slice p2 (tW s).length c2, .int .i64 ((if formB s then 0 else 9 : Nat) : Int)] ∧ SlAt [sg] p1 (intsV (tR s)) ∧ SlAt [sg] p2 (intsV (tW s)) ∧ Hp w0 w' (sg :: F) := by
  refine Calls.of_J (n := 98) Tryd.func20 rfl rfl rfl ?_
  refine J.seq ?_
  refine J.region ?_
  refine JL.does trivial (EX.box (v := Value.agg _) H rfl rfl) ?_
  rintro _ w ⟨b1, rfl, H⟩
  refine JL.go trivial (RX.assign) ?_
  refine JL.go trivial (RX.assign) ?_
  refine JL.go trivial (RX.assign) ?_
  refine JL.nil ?_
  refine J.seq ?_
  refine J.region ?_
  refine JL.go trivial (RX.loadAgg H rfl (i := 0) (vs := s.v) rfl rfl ag39) ?_
  refine JL.does trivial (EX.call rfl cl24 rfl ((rform_b H hs))) ?_
  rintro _ w ⟨rfl, H⟩
  refine JL.go trivial (RX.assignv (v := Value.int _ _) rfl) ?_
  refine JL.nil ?_
  refine J.seq ?_
  refine J.seq ?_
  refine J.region ?_
  refine JL.go trivial (RX.movev (v := Value.int _ _) rfl) ?_
  refine JL.go trivial (RX.ne rfl rfl) ?_
  refine JL.nil ?_
  refine J.cond_d rfl (fun hfb => ?_) (fun hfb => ?_)
  · skip
    have hf : formB s = false := by
      cases h : formB s with
      | false => rfl
      | true => rw [h] at hfb; exact absurd hfb (by decide)
    refine J.seq ?_
    refine J.region ?_
    refine JL.go trivial (RX.movev (v := Value.int _ _) rfl) ?_
    refine JL.go trivial (RX.assign) ?_
    refine JL.go trivial (RX.assign) ?_
    refine JL.go trivial (RX.assignv (v := Value.int _ _) rfl) ?_
    refine JL.nil ?_
    refine J.ret3 (v := Value.slice _ _ _) (x := Value.slice _ _ _) (y := Value.int _ _) Tryd.func20 rfl rfl rfl rfl ?_
    have e1 : tR s = [] := by simp [tR, hf]
    have e2 : tW s = [] := by simp [tW, hf]
    exact ⟨_, rfl, none, 0, none, 0, [], by rw [e1, e2, hf]; rfl, by rw [e1]; exact SlAt.nil, by rw [e2]; exact SlAt.nil, H.drop.nil⟩
  · skip
    have hf : formB s = true := by
      cases h : formB s with
      | true => rfl
      | false => rw [h] at hfb; exact absurd hfb (by decide)
    obtain ⟨_, _, hd0, hd1, hc0, hc1, hs0, hs1, hj0, hj1, hn0, hn1, hj, h5, h6⟩ := form_facts hf
    refine J.skip ?_
    refine J.seq ?_
    refine J.region ?_
    refine JL.go trivial (RX.fieldAddr rfl fo39_1 rfl) ?_
    refine JL.go trivial (RX.load H rfl (i := 0) (v := .int .i64 s.dst) rfl rfl one3) ?_
    refine JL.go trivial (RX.fieldAddr rfl fo39_4 rfl) ?_
    refine JL.go trivial (RX.load H rfl (i := 0) (v := .int .i64 s.count) rfl rfl one3) ?_
    refine JL.does trivial (EX.call rfl cl34 rfl ((row_r (c := ⟨s.dst, 1, s.count⟩) H (by constructor <;> simp only <;> omega)))) ?_
    rintro _ w ⟨po, co, so, rfl, hoo, H⟩
    refine JL.go trivial (RX.assignv (v := Value.slice _ _ _) rfl) ?_
    refine JL.nil ?_
    refine J.seq ?_
    refine J.seq ?_
    refine J.region ?_
    refine JL.go trivial (RX.fieldAddr rfl fo39_0 rfl) ?_
    refine JL.go trivial (RX.load H rfl (i := 1) (v := .int .i64 s.op) rfl rfl one3) ?_
    refine JL.nil ?_
    refine J.block ?_
    refine J.seq ?_
    refine J.region ?_
    refine JL.go trivial (RX.eq rfl rfl) ?_
    refine JL.go trivial (RX.assignv (v := Value.bool _) rfl) ?_
    refine JL.nil ?_
    refine J.cond_d rfl (fun o1 => ?_) (fun o1 => ?_)
    · skip
      refine J.seq ?_
      refine J.region ?_
      refine JL.go trivial (RX.fieldAddr rfl fo39_2 rfl) ?_
      refine JL.go trivial (RX.load H rfl (i := 1) (v := .int .i64 s.src) rfl rfl one3) ?_
      refine JL.go trivial (RX.fieldAddr rfl fo39_3 rfl) ?_
      refine JL.go trivial (RX.load H rfl (i := 1) (v := .int .i64 s.jump) rfl rfl one3) ?_
      refine JL.go trivial (RX.fieldAddr rfl fo39_4 rfl) ?_
      refine JL.go trivial (RX.load H rfl (i := 1) (v := .int .i64 s.count) rfl rfl one3) ?_
      refine JL.does trivial (EX.call rfl cl34 rfl ((row_r (c := ⟨s.src, s.jump, s.count⟩) H (by constructor <;> simp only <;> omega)))) ?_
      rintro _ w ⟨px, cx, sx, rfl, hox, H⟩
      refine JL.go trivial (RX.movev (v := Value.slice _ _ _) rfl) ?_
      refine JL.go trivial (RX.assignv (v := Value.slice _ _ _) rfl) ?_
      refine JL.go trivial (RX.assignv (v := Value.slice _ _ _) rfl) ?_
      refine JL.go trivial (RX.assign) ?_
      refine JL.nil ?_
      refine J.ret3 (v := Value.slice _ _ _) (x := Value.slice _ _ _) (y := Value.int _ _) Tryd.func20 rfl rfl rfl rfl ?_
      have eB : baseL s = [] := by
        unfold baseL ownB wr
        simp [o1]
      have eD : rdsL s = clL ⟨s.src, s.jump, s.count⟩ := by
        unfold rdsL rds
        simp [o1]
      have eR : tR s = clL ⟨s.src, s.jump, s.count⟩ := tR_eq hf (by omega) (clL_inc (by simp only; omega)) (fun x => by rw [eB, eD]; simp)
      have eW : tW s = clL ⟨s.dst, 1, s.count⟩ := by rw [tW_eq hf (by omega), wr_one (by omega)]
      exact ⟨_, rfl, px, cx, po, co, _, by rw [eR, eW, hf]; rfl, by rw [eR]; exact sl_into (hox.slAt (L := [])) (fun e he => by simp [he]), by rw [eW]; exact sl_into (hoo.slAt (L := [])) (fun e he => by simp [he]), H.join.join⟩
    · skip
      refine J.seq ?_
      refine J.region ?_
      refine JL.go trivial (RX.eq rfl rfl) ?_
      refine JL.go trivial (RX.assignv (v := Value.bool _) rfl) ?_
      refine JL.nil ?_
      refine J.cond_d rfl (fun o2 => ?_) (fun o2 => ?_)
      · skip
        refine J.seq ?_
        refine J.held (fun w => Hp w0 w (so :: [(b1, cel s.v 39)] :: F)) hmix fun w hs => ?_
        replace H := H.same hs; clear hs
        have hS : Hp w0 w (so :: [(b1, cel s.v 39)] :: F) := by first | exact H | exact H.drop | exact H.drop.drop | exact H.drop.drop.drop | exact H.drop.drop.drop.drop | exact H.drop.drop.drop.drop.drop | exact H.drop.drop.drop.drop.drop.drop | exact H.drop.drop.drop.drop.drop.drop.drop | exact H.drop.drop.drop.drop.drop.drop.drop.drop
        refine JH.take 0 (listed' := [true, false, false, false, false, false, false, false, false, false, false, false, false, false, false]) rfl (by kernel_rfl) (by kernel_rfl) (by kernel_rfl) rfl trivial (fun w H => RX.fieldAddr rfl fo39_2 rfl) hS ?_
        refine JH.take 1 (listed' := [true, true, false, false, false, false, false, false, false, false, false, false, false, false, false]) rfl (by kernel_rfl) (by kernel_rfl) (by kernel_rfl) rfl trivial (fun w H => RX.load H rfl (i := 1) (v := .int .i64 s.src) rfl rfl one3) hS ?_
        refine JH.take 2 (listed' := [true, true, true, false, false, false, false, false, false, false, false, false, false, false, false]) rfl (by kernel_rfl) (by kernel_rfl) (by kernel_rfl) rfl trivial (fun w H => RX.fieldAddr rfl fo39_4 rfl) hS ?_
        refine JH.take 3 (listed' := [true, true, true, true, false, false, false, false, false, false, false, false, false, false, false]) rfl (by kernel_rfl) (by kernel_rfl) (by kernel_rfl) rfl trivial (fun w H => RX.load H rfl (i := 1) (v := .int .i64 s.count) rfl rfl one3) hS ?_
        refine JH.take 5 (listed' := [true, true, true, true, false, true, false, false, false, false, false, false, false, false, false]) rfl (by kernel_rfl) (by kernel_rfl) (by kernel_rfl) rfl trivial (fun w H => RX.fieldAddr rfl fo39_1 rfl) hS ?_
        refine JH.take 6 (listed' := [true, true, true, true, false, true, true, false, false, false, false, false, false, false, false]) rfl (by kernel_rfl) (by kernel_rfl) (by kernel_rfl) rfl trivial (fun w H => RX.load H rfl (i := 1) (v := .int .i64 s.dst) rfl rfl one3) hS ?_
        refine JH.take 7 (listed' := [true, true, true, true, false, true, true, true, false, false, false, false, false, false, false]) rfl (by kernel_rfl) (by kernel_rfl) (by kernel_rfl) rfl trivial (fun w H => RX.fieldAddr rfl fo39_3 rfl) hS ?_
        refine JH.take 8 (listed' := [true, true, true, true, false, true, true, true, true, false, false, false, false, false, false]) rfl (by kernel_rfl) (by kernel_rfl) (by kernel_rfl) rfl trivial (fun w H => RX.load H rfl (i := 1) (v := .int .i64 s.jump) rfl rfl one3) hS ?_
        refine JH.take 9 (listed' := [true, true, true, true, false, true, true, true, true, true, false, false, false, false, false]) rfl (by kernel_rfl) (by kernel_rfl) (by kernel_rfl) rfl trivial (fun w H => RX.fieldAddr rfl fo39_4 rfl) hS ?_
        refine JH.take 10 (listed' := [true, true, true, true, false, true, true, true, true, true, true, false, false, false, false]) rfl (by kernel_rfl) (by kernel_rfl) (by kernel_rfl) rfl trivial (fun w H => RX.load H rfl (i := 1) (v := .int .i64 s.count) rfl rfl one3) hS ?_
        refine JH.all [4] (by kernel_rfl) (by decide) ?_
        refine JHO.does (listed' := [true, true, true, true, true, true, true, true, true, true, true, false, false, false, false]) rfl rfl trivial (EX.call rfl cl34 rfl ((row_r (c := ⟨s.src, 1, s.count⟩) H (by constructor <;> simp only <;> omega)))) ?_
        rintro _ w ⟨px, cx, sx, rfl, hox, H⟩
        have hS : Hp w0 w (so :: [(b1, cel s.v 39)] :: F) := by first | exact H | exact H.drop | exact H.drop.drop | exact H.drop.drop.drop | exact H.drop.drop.drop.drop | exact H.drop.drop.drop.drop.drop | exact H.drop.drop.drop.drop.drop.drop | exact H.drop.drop.drop.drop.drop.drop.drop | exact H.drop.drop.drop.drop.drop.drop.drop.drop
        refine ⟨hS, ?_⟩
        refine JH.all [11] (by kernel_rfl) (by decide) ?_
        refine JHO.does (listed' := [true, true, true, true, true, true, true, true, true, true, true, true, false, false, false]) rfl rfl trivial (EX.call rfl cl34 rfl ((row_r (c := ⟨s.dst, s.jump, s.count⟩) H (by constructor <;> simp only <;> omega)))) ?_
        rintro _ w ⟨py, cy, sy, rfl, hoy, H⟩
        have hS : Hp w0 w (so :: [(b1, cel s.v 39)] :: F) := by first | exact H | exact H.drop | exact H.drop.drop | exact H.drop.drop.drop | exact H.drop.drop.drop.drop | exact H.drop.drop.drop.drop.drop | exact H.drop.drop.drop.drop.drop.drop | exact H.drop.drop.drop.drop.drop.drop.drop | exact H.drop.drop.drop.drop.drop.drop.drop.drop
        refine ⟨hS, ?_⟩
        refine JH.take 12 (listed' := [true, true, true, true, true, true, true, true, true, true, true, true, true, false, false]) rfl (by kernel_rfl) (by kernel_rfl) (by kernel_rfl) rfl trivial (fun w H => RX.assignv (v := Value.slice _ _ _) rfl) hS ?_
        refine JH.take 13 (listed' := [true, true, true, true, true, true, true, true, true, true, true, true, true, true, false]) rfl (by kernel_rfl) (by kernel_rfl) (by kernel_rfl) rfl trivial (fun w H => RX.assignv (v := Value.slice _ _ _) rfl) hS ?_
        refine JH.take 14 (listed' := [true, true, true, true, true, true, true, true, true, true, true, true, true, true, true]) rfl (by kernel_rfl) (by kernel_rfl) (by kernel_rfl) rfl trivial (fun w H => RX.assign) hS ?_
        refine JH.done (by kernel_rfl) ?_
        refine J.ret3 (v := Value.slice _ _ _) (x := Value.slice _ _ _) (y := Value.int _ _) Tryd.func20 rfl rfl rfl rfl ?_
        have eB : baseL s = [] := by
          unfold baseL ownB wr
          simp [o2]
        have eD : rdsL s = clL ⟨s.src, 1, s.count⟩ := by
          unfold rdsL rds
          simp [o2]
        have eR : tR s = clL ⟨s.src, 1, s.count⟩ := tR_eq hf (by omega) (clL_inc (by simp only; omega)) (fun x => by rw [eB, eD]; simp)
        have eW : tW s = clL ⟨s.dst, s.jump, s.count⟩ := by rw [tW_eq hf (by omega)]; simp [wr, o2]
        exact ⟨_, rfl, px, cx, py, cy, _, by rw [eR, eW, hf]; rfl, by rw [eR]; exact sl_into (hox.slAt (L := [])) (fun e he => by simp [he]), by rw [eW]; exact sl_into (hoy.slAt (L := [])) (fun e he => by simp [he]), H.join.join.join⟩
      · skip
        refine J.seq ?_
        refine J.seq ?_
        refine J.region ?_
        refine JL.go trivial (RX.eq rfl rfl) ?_
        refine JL.go trivial (RX.assignv (v := Value.bool _) rfl) ?_
        refine JL.nil ?_
        refine J.cond_d rfl (fun o3 => ?_) (fun o3 => ?_)
        · skip
          refine J.skip ?_
          refine J.cond_t rfl (decide_eq_true o3) ?_
          refine J.seq ?_
          refine J.region ?_
          refine JL.go trivial (RX.movev (v := Value.slice _ _ _) rfl) ?_
          refine JL.go trivial (RX.assign) ?_
          refine JL.go trivial (RX.assignv (v := Value.slice _ _ _) rfl) ?_
          refine JL.go trivial (RX.assign) ?_
          refine JL.nil ?_
          refine J.ret3 (v := Value.slice _ _ _) (x := Value.slice _ _ _) (y := Value.int _ _) Tryd.func20 rfl rfl rfl rfl ?_
          have eB : baseL s = [] := by
            unfold baseL ownB wr
            simp [o3]
          have eD : rdsL s = [] := by
            unfold rdsL rds
            simp [o3]
          have eR : tR s = [] := tR_eq hf (by omega) inc_nil (fun x => by rw [eB, eD]; simp)
          have eW : tW s = clL ⟨s.dst, 1, s.count⟩ := by rw [tW_eq hf (by omega), wr_one (by omega)]
          exact ⟨_, rfl, none, 0, po, co, _, by rw [eR, eW, hf]; rfl, by rw [eR]; exact SlAt.nil, by rw [eW]; exact sl_into (hoo.slAt (L := [])) (fun e he => by simp [he]), H.join⟩
        · skip
          refine J.region ?_
          refine JL.go trivial (RX.eq rfl rfl) ?_
          refine JL.go trivial (RX.assignv (v := Value.bool _) rfl) ?_
          refine JL.nil ?_
          refine J.cond_d rfl (fun o3b => ?_) (fun o3b => ?_)
          · skip
            refine J.seq ?_
            refine J.region ?_
            refine JL.go trivial (RX.movev (v := Value.slice _ _ _) rfl) ?_
            refine JL.go trivial (RX.assign) ?_
            refine JL.go trivial (RX.assignv (v := Value.slice _ _ _) rfl) ?_
            refine JL.go trivial (RX.assign) ?_
            refine JL.nil ?_
            refine J.ret3 (v := Value.slice _ _ _) (x := Value.slice _ _ _) (y := Value.int _ _) Tryd.func20 rfl rfl rfl rfl ?_
            have eB : baseL s = [] := by
              unfold baseL ownB wr
              simp [o3b]
            have eD : rdsL s = [] := by
              unfold rdsL rds
              simp [o3b]
            have eR : tR s = [] := tR_eq hf (by omega) inc_nil (fun x => by rw [eB, eD]; simp)
            have eW : tW s = clL ⟨s.dst, 1, s.count⟩ := by rw [tW_eq hf (by omega), wr_one (by omega)]
            exact ⟨_, rfl, none, 0, po, co, _, by rw [eR, eW, hf]; rfl, by rw [eR]; exact SlAt.nil, by rw [eW]; exact sl_into (hoo.slAt (L := [])) (fun e he => by simp [he]), H.join⟩
          · skip
            refine J.seq ?_
            refine J.region ?_
            refine JL.go trivial (RX.eq rfl rfl) ?_
            refine JL.go trivial (RX.assignv (v := Value.bool _) rfl) ?_
            refine JL.nil ?_
            refine J.cond_d rfl (fun o5 => ?_) (fun o5 => ?_)
            · skip
              refine J.seq ?_
              refine J.region ?_
              refine JL.does trivial (EX.buildSlice0 H elI) ?_
              rintro _ w ⟨b7, rfl, H⟩
              refine JL.go trivial (RX.assignv (v := Value.slice _ _ _) rfl) ?_
              refine JL.nil ?_
              refine J.seq ?_
              refine J.seq ?_
              refine J.region ?_
              refine JL.go trivial (RX.assign) ?_
              refine JL.nil ?_
              refine J.block ?_
              refine J.loop (ι := Nat × Option Addr × Nat × Seg) (S := fun q => [(8, .int .i64 (q.1 : Nat)), (7, .slice q.2.1 (flyA s q.1).length q.2.2.1)]) (Φ := fun q w => q.1 ≤ s.n.toNat ∧ OwnSl 3 1 q.2.1 (flyA s q.1).length q.2.2.1 (intsV (flyA s q.1)) q.2.2.2 ∧ Hp w0 w (q.2.2.2 :: so :: [(b1, cel s.v 39)] :: F)) (μ := fun q => s.n.toNat - q.1) (C := [(1, _)]) (0, some ⟨b7, 0, none⟩, 0, [(b7, cel [] 3)]) ⟨rfl, trivial⟩ ⟨rfl, rfl, trivial⟩ ?_ ?_
              · exact ⟨by simp, OwnSl.empty, H⟩
              clear H
              rintro ⟨k, p, cp, g⟩ ρ w ⟨hk, ho, H⟩ IH
              simp only at hk ho H
              dsimp only
              refine J.seq ?_
              refine J.seq ?_
              refine J.region ?_
              refine JL.go trivial (RX.movev (v := Value.int _ _) rfl) ?_
              refine JL.go trivial (RX.fieldAddr rfl fo39_5 rfl) ?_
              refine JL.go trivial (RX.load H rfl (i := 2) (v := .int .i64 s.n) rfl rfl one3) ?_
              refine JL.go trivial (RX.lt rfl rfl) ?_
              refine JL.nil ?_
              refine J.cond_d rfl (fun hlt => ?_) (fun hlt => ?_)
              · skip
                have hrk := rowC_ok hf (k := k) (by omega)
                have hlr := hrk.len
                have hlk := fly_len hf hk
                have hm := row_mul hf (k := k) (by omega)
                have hle : (flyA s k).length + (clL (rowC s k)).length = (flyA s (k + 1)).length := by rw [flyA, List.length_append]
                refine J.skip ?_
                refine J.seq ?_
                refine J.block ?_
                refine J.region ?_
                refine JL.go trivial (RX.movev (v := Value.slice _ _ _) rfl) ?_
                refine JL.go trivial (RX.fieldAddr rfl fo39_1 rfl) ?_
                refine JL.go trivial (RX.load H rfl (i := 2) (v := .int .i64 s.dst) rfl rfl one3) ?_
                refine JL.go trivial (RX.movev (v := Value.int _ _) rfl) ?_
                refine JL.go trivial (RX.fieldAddr rfl fo39_3 rfl) ?_
                refine JL.go trivial (RX.load H rfl (i := 2) (v := .int .i64 s.jump) rfl rfl one3) ?_
                refine JL.go trivial (RX.mul rfl rfl (w_i64 rfl (by omega) (by omega))) ?_
                refine JL.go trivial (RX.add rfl rfl (w_i64 rfl (by omega) (by omega))) ?_
                refine JL.go trivial (RX.fieldAddr rfl fo39_4 rfl) ?_
                refine JL.go trivial (RX.load H rfl (i := 2) (v := .int .i64 s.count) rfl rfl one3) ?_
                refine JL.does trivial (EX.call rfl cl34 rfl ((row_r (c := rowC s k) H hrk))) ?_
                rintro _ w ⟨lp, lc, ls, rfl, hol, H⟩
                refine JL.does trivial (EX.append (ys := intsV (clL (rowC s k))) (L' := fun s' => ls :: s' :: so :: [(b1, cel s.v 39)] :: F) H elI rfl rfl (i := 1) rfl ho hol.slAt (by rw [intsV_len, Nat.mul_one]) (intsV_cell _) (by decide) (by omega) (by omega) (fun _ => rfl)) ?_
                rintro v w ⟨p3, c3, s3, hv, ho3, H⟩
                rw [← intsV_app, hle] at ho3
                rw [hle] at hv
                subst hv
                refine JL.go trivial (RX.assignv (v := Value.slice _ _ _) rfl) ?_
                refine JL.nil ?_
                refine J.inBlock ?_
                refine J.region ?_
                refine JL.go trivial (RX.movev (v := Value.int _ _) rfl) ?_
                refine JL.go trivial (RX.add rfl rfl (w_i64 (r := ((k + 1 : Nat) : Int)) (by omega) (by omega) (by omega))) ?_
                refine JL.go trivial (RX.assignv (v := Value.int _ _) rfl) ?_
                refine JL.nil ?_
                exact IH (k + 1, p3, c3, s3) _ _ (by simp only; omega) ⟨rfl, trivial⟩ ⟨rfl, rfl, trivial⟩ ⟨by simp only; omega, ho3, H.drop⟩
              · skip
                refine J.exit rfl ?_
                refine J.seq ?_
                have hk2 : k = s.n.toNat := by omega
                subst hk2
                have hlk := fly_len hf hk
                refine J.region ?_
                refine JL.go trivial (RX.movev (v := Value.slice _ _ _) rfl) ?_
                refine JL.does trivial (EX.buildSlice0 H elI) ?_
                rintro _ w ⟨b8, rfl, H⟩
                refine JL.go trivial (RX.movev (v := Value.slice _ _ _) rfl) ?_
                refine JL.does trivial (EX.append (ys := intsV (flyA s s.n.toNat)) (L' := fun s' => s' :: g :: so :: [(b1, cel s.v 39)] :: F) H elI rfl rfl (i := 0) rfl OwnSl.empty ho.slAt.cons (by rw [intsV_len, Nat.mul_one]) (intsV_cell _) (by decide) (by omega) (by omega) (fun _ => rfl)) ?_
                rintro v w ⟨p3, c3, s3, hv, ho3, H⟩
                rw [Nat.zero_add] at hv ho3
                subst hv
                refine JL.go trivial (RX.assignv (v := Value.slice _ _ _) rfl) ?_
                refine JL.go trivial (RX.assignv (v := Value.slice _ _ _) rfl) ?_
                refine JL.go trivial (RX.assign) ?_
                refine JL.nil ?_
                refine J.ret3 (v := Value.slice _ _ _) (x := Value.slice _ _ _) (y := Value.int _ _) Tryd.func20 rfl rfl rfl rfl ?_
                obtain ⟨eR, eW⟩ := t5_eq hf o5
                exact ⟨_, rfl, p, cp, p3, c3, _, by rw [eR, eW, hf]; rfl, by rw [eR]; exact sl_into (ho.slAt (L := [])) (fun e he => by simp [he]), by rw [eW]; exact sl_into (ho3.slAt (L := [])) (fun e he => by simp [he]), H.join.join.join⟩
            · skip
              refine J.seq ?_
              refine J.region ?_
              refine JL.go trivial (RX.eq rfl rfl) ?_
              refine JL.go trivial (RX.assignv (v := Value.bool _) rfl) ?_
              refine JL.nil ?_
              refine J.cond_d rfl (fun o6 => ?_) (fun o6 => ?_)
              · skip
                refine J.seq ?_
                refine J.region ?_
                refine JL.go trivial (RX.fieldAddr rfl fo39_2 rfl) ?_
                refine JL.go trivial (RX.load H rfl (i := 1) (v := .int .i64 s.src) rfl rfl one3) ?_
                refine JL.go trivial (RX.fieldAddr rfl fo39_3 rfl) ?_
                refine JL.go trivial (RX.load H rfl (i := 1) (v := .int .i64 s.jump) rfl rfl one3) ?_
                refine JL.go trivial (RX.fieldAddr rfl fo39_5 rfl) ?_
                refine JL.go trivial (RX.load H rfl (i := 1) (v := .int .i64 s.n) rfl rfl one3) ?_
                refine JL.does trivial (EX.call rfl cl34 rfl ((row_r (c := ⟨s.src, s.jump, s.n⟩) H (by constructor <;> simp only <;> omega)))) ?_
                rintro _ w ⟨px, cx, sx, rfl, hox, H⟩
                refine JL.go trivial (RX.movev (v := Value.slice _ _ _) rfl) ?_
                refine JL.go trivial (RX.assignv (v := Value.slice _ _ _) rfl) ?_
                refine JL.go trivial (RX.assignv (v := Value.slice _ _ _) rfl) ?_
                refine JL.go trivial (RX.assign) ?_
                refine JL.nil ?_
                refine J.ret3 (v := Value.slice _ _ _) (x := Value.slice _ _ _) (y := Value.int _ _) Tryd.func20 rfl rfl rfl rfl ?_
                have eB : baseL s = [] := by
                  unfold baseL ownB wr
                  simp [o6]
                have eD : rdsL s = clL ⟨s.src, s.jump, s.n⟩ := by
                  unfold rdsL rds
                  simp [o6]
                have eR : tR s = clL ⟨s.src, s.jump, s.n⟩ := tR_eq hf (by omega) (clL_inc (by simp only; omega)) (fun x => by rw [eB, eD]; simp)
                have eW : tW s = clL ⟨s.dst, 1, s.count⟩ := by rw [tW_eq hf (by omega), wr_one (by omega)]
                exact ⟨_, rfl, px, cx, po, co, _, by rw [eR, eW, hf]; rfl, by rw [eR]; exact sl_into (hox.slAt (L := [])) (fun e he => by simp [he]), by rw [eW]; exact sl_into (hoo.slAt (L := [])) (fun e he => by simp [he]), H.join.join⟩
              · skip
                refine J.seq ?_
                refine J.region ?_
                refine JL.go trivial (RX.eq rfl rfl) ?_
                refine JL.go trivial (RX.assignv (v := Value.bool _) rfl) ?_
                refine JL.nil ?_
                refine J.cond_d rfl (fun o9 => ?_) (fun o9 => ?_)
                · skip
                  refine J.seq ?_
                  refine J.region ?_
                  refine JL.go trivial (RX.movev (v := Value.slice _ _ _) rfl) ?_
                  refine JL.go trivial (RX.fieldAddr rfl fo39_2 rfl) ?_
                  refine JL.go trivial (RX.load H rfl (i := 1) (v := .int .i64 s.src) rfl rfl one3) ?_
                  refine JL.go trivial (RX.fieldAddr rfl fo39_4 rfl) ?_
                  refine JL.go trivial (RX.load H rfl (i := 1) (v := .int .i64 s.count) rfl rfl one3) ?_
                  refine JL.does trivial (EX.call rfl cl34 rfl ((row_r (c := ⟨s.src, 1, s.count⟩) H (by constructor <;> simp only <;> omega)))) ?_
                  rintro _ w ⟨px, cx, sx, rfl, hox, H⟩
                  refine JL.does trivial (EX.call rfl cl35 rfl ((both_r H (hoo.slAt (L := [(b1, cel s.v 39)] :: F)).cons hox.slAt (clL_inc (show (1 : Int) ≤ 1 by decide)) (clL_inc (show (1 : Int) ≤ 1 by decide)) (by rw [clL_len]; simp only; omega) (by rw [clL_len]; simp only; omega) (by rw [clL_len]; simp only; omega) (by rw [clL_len]; simp only; omega)))) ?_
                  rintro _ w ⟨l, pz, cz, sz, rfl, hoz, hil, hml, H⟩
                  refine JL.go trivial (RX.movev (v := Value.slice _ _ _) rfl) ?_
                  refine JL.go trivial (RX.assignv (v := Value.slice _ _ _) rfl) ?_
                  refine JL.go trivial (RX.assignv (v := Value.slice _ _ _) rfl) ?_
                  refine JL.go trivial (RX.assign) ?_
                  refine JL.nil ?_
                  refine J.ret3 (v := Value.slice _ _ _) (x := Value.slice _ _ _) (y := Value.int _ _) Tryd.func20 rfl rfl rfl rfl ?_
                  have eB : baseL s = clL ⟨s.dst, 1, s.count⟩ := by
                    unfold baseL ownB wr
                    simp [o9]
                  have eD : rdsL s = clL ⟨s.src, 1, s.count⟩ := by
                    unfold rdsL rds
                    simp [o9]
                  have eR : tR s = l := tR_eq hf (by omega) hil (fun x => by rw [eB, eD, hml])
                  have eW : tW s = clL ⟨s.dst, 1, s.count⟩ := by rw [tW_eq hf (by omega), wr_one (by omega)]
                  exact ⟨_, rfl, pz, cz, po, co, _, by rw [eR, eW, hf]; rfl, by rw [eR]; exact sl_into (hoz.slAt (L := [])) (fun e he => by simp [he]), by rw [eW]; exact sl_into (hoo.slAt (L := [])) (fun e he => by simp [he]), H.join.join.join⟩
                · skip
                  refine J.skip ?_
                  refine J.inBlock ?_
                  refine J.seq ?_
                  refine J.region ?_
                  refine JL.does trivial (EX.buildSlice0 H elI) ?_
                  rintro _ w ⟨b8, rfl, H⟩
                  refine JL.go trivial (RX.movev (v := Value.slice _ _ _) rfl) ?_
                  have hlo : (clL ⟨s.dst, 1, s.count⟩).length ≤ 1048576 := by rw [clL_len]; simp only; omega
                  refine JL.does trivial (EX.append (ys := intsV (clL ⟨s.dst, 1, s.count⟩)) (L' := fun s' => s' :: so :: [(b1, cel s.v 39)] :: F) H elI rfl rfl (i := 0) rfl OwnSl.empty hoo.slAt.cons (by rw [intsV_len, Nat.mul_one]) (intsV_cell _) (by decide) (by omega) (by omega) (fun _ => rfl)) ?_
                  rintro v w ⟨p3, c3, s3, hv, ho3, H⟩
                  rw [Nat.zero_add] at hv ho3
                  subst hv
                  refine JL.go trivial (RX.movev (v := Value.slice _ _ _) rfl) ?_
                  refine JL.go trivial (RX.assignv (v := Value.slice _ _ _) rfl) ?_
                  refine JL.go trivial (RX.assignv (v := Value.slice _ _ _) rfl) ?_
                  refine JL.go trivial (RX.assign) ?_
                  refine JL.nil ?_
                  refine J.ret3 (v := Value.slice _ _ _) (x := Value.slice _ _ _) (y := Value.int _ _) Tryd.func20 rfl rfl rfl rfl ?_
                  have eB : baseL s = clL ⟨s.dst, 1, s.count⟩ := by
                    unfold baseL ownB wr
                    simp [o1, o2, o3, o3b, o6]
                  have eD : rdsL s = [] := by
                    unfold rdsL rds
                    simp [o1, o2, o6, o9]
                  have eR : tR s = clL ⟨s.dst, 1, s.count⟩ := tR_eq hf (by omega) (clL_inc (show (1 : Int) ≤ 1 by decide)) (fun x => by rw [eB, eD]; simp)
                  have eW : tW s = clL ⟨s.dst, 1, s.count⟩ := by rw [tW_eq hf (by omega), wr_one (by omega)]
                  exact ⟨_, rfl, p3, c3, po, co, _, by rw [eR, eW, hf]; rfl, by rw [eR]; exact sl_into (ho3.slAt (L := [])) (fun e he => by simp [he]), by rw [eW]; exact sl_into (hoo.slAt (L := [])) (fun e he => by simp [he]), H.join.join⟩
end Go.Proofs.YtafhajgebhicdaaDoor
