/- The law OrderAsks. -/
import Derived.Test.YtinbeaaloailnaaDoorLt
import Derived.Test.YtinbeaaloailnaaDoorRt
namespace Go.Proofs.YtinbeaaloailnaaDoor
open Go Go.Eng
set_option maxRecDepth 100000
set_option linter.unusedVariables false
set_option linter.unusedSimpArgs false
theorem cl26 : callable Tryd.prog 26 = true := by kernel_rfl
theorem e8_c8 {E : Nat → Value} {t : Tr} : e8 E (goodB t) = errV E (c8 t) := by
  unfold e8 goodB errV c8
  by_cases h : lenO t = 0
  · rw [decide_eq_false (fun h' => h' h), if_pos h]; rfl
  · rw [decide_eq_true h, if_neg h]; rfl
theorem c8_le (t : Tr) : c8 t ≤ 19 := by
  unfold c8; split <;> omega
theorem lvs_parts : ∀ (m : Nat) (t : Tr), t.parts ≤ m → ∀ x ∈ t.lvs, x.parts ≤ 1
  | 0, t, h, _, _ => by have := parts_pos t; omega
  | m + 1, t, h, x, hx => by
    obtain ⟨k, n, ks⟩ := t
    rw [Tr.parts] at h
    by_cases h0 : ks.length = 0
    · rw [lvs_leaf h0] at hx
      obtain rfl := List.mem_singleton.1 hx
      obtain rfl := List.eq_nil_of_length_eq_zero h0
      rw [Tr.parts, partsL]; omega
    · rw [lvs_node h0] at hx
      have : ∀ l : List Tr, partsL l ≤ m → ∀ x ∈ lvsL l, x.parts ≤ 1 := by
        intro l
        induction l with
        | nil => intro _ x hx; rw [lvsL] at hx; simp at hx
        | cons y l ih =>
          intro hl x hx
          rw [partsL] at hl
          rw [lvsL] at hx
          rcases List.mem_append.1 hx with h | h
          · exact lvs_parts m y (by omega) x h
          · exact ih (by omega) x h
      exact this ks (by omega) x hx
theorem OrderAsks_b {w0 w : World} {F : List Seg} (H : Hp w0 w F) {E : Nat → Value} {Q : Nat → Addr} (hE : Errs F E Q) (hg : GTab F) {t : Tr} {vs : List Value} (ht : t.Is F vs) (hw : t.wide) : Ret Tryd.prog 7 [.agg vs.toArray] w fun v w' => v = .bool true ∧ Hp w0 w' F := by
  refine Calls.of_J (n := 89) Tryd.func7 rfl rfl rfl ?_
  refine J.seq ?_
  obtain ⟨k, n, p, m, c, rfl⟩ := ht.shape
  have g8 : GErr F 1 (E 8) := (errs_ie hE).t8
  refine J.region ?_
  refine JL.does trivial (EX.box (v := Value.agg _) H rfl rfl) ?_
  rintro _ w ⟨b1, rfl, H⟩
  refine JL.go trivial (RX.assign) ?_
  refine JL.nil ?_
  refine J.seq ?_
  refine J.region ?_
  refine JL.does trivial (EX.call rfl cl9 rfl ((lives_b H (errs_ie hE).cons hg.cons))) ?_
  rintro _ w ⟨rfl, H⟩
  refine JL.go trivial (RX.assignv (v := Value.bool _) rfl) ?_
  refine JL.nil ?_
  refine J.seq ?_
  refine J.seq ?_
  refine J.region ?_
  refine JL.go trivial (RX.movev (v := Value.bool _) rfl) ?_
  refine JL.go trivial (RX.not rfl) ?_
  refine JL.go trivial (RX.movev (v := Value.bool _) rfl) ?_
  refine JL.go ⟨_, rfl, rfl⟩ (RX.loadAgg H rfl (i := 0) (vs := tv k n p m c) rfl rfl ag25) ?_
  refine JL.does ⟨_, rfl, rfl⟩ (EX.call rfl cl15 rfl ((large_b H ht.cons hw))) ?_
  rintro _ w ⟨rfl, H⟩
  refine JL.go trivial (RX.pick_f rfl rfl) ?_
  refine JL.nil ?_
  refine J.cond_d rfl (fun hbig => ?_) (fun hbig => ?_)
  · skip
    refine J.seq ?_
    refine J.region ?_
    refine JL.go trivial (RX.movev (v := Value.bool _) rfl) ?_
    refine JL.go trivial (RX.assignv (v := Value.bool _) rfl) ?_
    refine JL.nil ?_
    refine J.ret1 (v := Value.bool _) Tryd.func7 rfl rfl ?_
    exact ⟨_, rfl, rfl, H.drop⟩
  · skip
    have hp : t.parts ≤ 4500 := by omega
    refine J.skip ?_
    refine J.seq ?_
    refine J.region ?_
    refine JL.go trivial (RX.loadAgg H rfl (i := 0) (vs := tv k n p m c) rfl rfl ag25) ?_
    refine JL.does trivial (EX.call rfl cl16 rfl ((Text_b H ht.cons (by omega) g8.cons hg.cons))) ?_
    rintro _ w ⟨rfl, H⟩
    rw [e8_c8]
    refine JL.go trivial (RX.movev (v := Value.tuple _) rfl) ?_
    refine JL.go trivial (RX.extract (v := .string ⟨(textO t).toArray⟩) rfl rfl) ?_
    refine JL.go trivial (RX.extract (v := errV E (c8 t)) rfl rfl) ?_
    refine JL.go trivial (RX.assignv (v := Value.string _) rfl) ?_
    refine JL.go trivial (RX.assignv (v := errV E (c8 t)) rfl) ?_
    refine JL.nil ?_
    refine J.seq ?_
    refine J.region ?_
    refine JL.go trivial (RX.loadAgg H rfl (i := 0) (vs := tv k n p m c) rfl rfl ag25) ?_
    refine JL.does trivial (EX.call rfl cl26 rfl ((rText_b H ht.cons (by omega)))) ?_
    rintro _ w ⟨rfl, H⟩
    refine JL.go trivial (RX.movev (v := Value.tuple _) rfl) ?_
    refine JL.go trivial (RX.extract (v := .string ⟨(textO t).toArray⟩) rfl rfl) ?_
    refine JL.go trivial (RX.extract (v := .int .i64 (c8 t : Nat)) rfl rfl) ?_
    refine JL.go trivial (RX.assignv (v := Value.string _) rfl) ?_
    refine JL.go trivial (RX.assignv (v := Value.int _ _) rfl) ?_
    refine JL.nil ?_
    refine J.seq ?_
    refine J.seq ?_
    refine J.region ?_
    refine JL.go trivial (RX.movev (v := Value.string _) rfl) ?_
    refine JL.go trivial (RX.movev (v := Value.string _) rfl) ?_
    refine JL.go trivial (RX.str_neq rfl rfl) ?_
    refine JL.go trivial (RX.movev (v := Value.bool _) rfl) ?_
    refine JL.go ⟨_, rfl, (decide_eq_false (fun h => h rfl))⟩ (RX.movev (v := errV E (c8 t)) rfl) ?_
    refine JL.does ⟨_, rfl, (decide_eq_false (fun h => h rfl))⟩ (EX.call rfl cl13 rfl ((Num_b H hE.cons (c8_le t)))) ?_
    rintro _ w ⟨rfl, H⟩
    refine JL.go ⟨_, rfl, (decide_eq_false (fun h => h rfl))⟩ (RX.movev (v := Value.int _ _) rfl) ?_
    refine JL.go ⟨_, rfl, (decide_eq_false (fun h => h rfl))⟩ (RX.ne rfl rfl) ?_
    refine JL.go trivial (RX.pick_f rfl (decide_eq_false (fun h => h rfl))) ?_
    refine JL.go trivial (RX.movev (v := Value.bool _) rfl) ?_
    refine JL.go ⟨_, rfl, (decide_eq_false (fun h => h rfl))⟩ (RX.loadAgg H rfl (i := 0) (vs := tv k n p m c) rfl rfl ag25) ?_
    refine JL.does ⟨_, rfl, (decide_eq_false (fun h => h rfl))⟩ (EX.call rfl cl17 rfl ((Check_b H ht.cons (by omega) g8.cons))) ?_
    rintro _ w ⟨rfl, H⟩
    rw [e8_c8]
    refine JL.does ⟨_, rfl, (decide_eq_false (fun h => h rfl))⟩ (EX.call rfl cl13 rfl ((Num_b H hE.cons (c8_le t)))) ?_
    rintro _ w ⟨rfl, H⟩
    refine JL.go ⟨_, rfl, (decide_eq_false (fun h => h rfl))⟩ (RX.movev (v := Value.int _ _) rfl) ?_
    refine JL.go ⟨_, rfl, (decide_eq_false (fun h => h rfl))⟩ (RX.ne rfl rfl) ?_
    refine JL.go trivial (RX.pick_f rfl (decide_eq_false (fun h => h rfl))) ?_
    refine JL.nil ?_
    refine J.cond_f rfl (decide_eq_false (fun h => h rfl)) ?_
    refine J.skip ?_
    refine J.seq ?_
    refine J.seq ?_
    refine J.quietH H hmix (by kernel_rfl) ?_
    refine JQ.go trivial (fun w H => RX.loadAgg H rfl (i := 0) (vs := tv k n p m c) rfl rfl ag25) ?_
    refine JQ.call trivial (fun w H => run_callq rfl cl18 rfl) (fun w H => (Length_b H ht.cons (by omega))) ?_
    refine JQ.go trivial (fun w H => RX.loadAgg H rfl (i := 0) (vs := tv k n p m c) rfl rfl ag25) ?_
    refine JQ.call trivial (fun w H => run_callq rfl cl27 rfl) (fun w H => (rLength_b H ht.cons (by omega))) ?_
    refine JQ.go trivial (fun w H => RX.ne rfl rfl) ?_
    refine JQ.go trivial (fun w H => RX.movev (v := Value.bool _) rfl) ?_
    refine JQ.go ⟨_, rfl, (decide_eq_false (fun h => h rfl))⟩ (fun w H => RX.loadAgg H rfl (i := 0) (vs := tv k n p m c) rfl rfl ag25) ?_
    refine JQ.call ⟨_, rfl, (decide_eq_false (fun h => h rfl))⟩ (fun w H => run_callq rfl cl28 rfl) (fun w H => (depth_b t (by omega) _ _ _ _ H ht.cons)) ?_
    refine JQ.go ⟨_, rfl, (decide_eq_false (fun h => h rfl))⟩ (fun w H => RX.loadAgg H rfl (i := 0) (vs := tv k n p m c) rfl rfl ag25) ?_
    refine JQ.call ⟨_, rfl, (decide_eq_false (fun h => h rfl))⟩ (fun w H => run_callq rfl cl29 rfl) (fun w H => (rdepth_b t (by omega) _ _ _ _ H ht.cons)) ?_
    refine JQ.go ⟨_, rfl, (decide_eq_false (fun h => h rfl))⟩ (fun w H => RX.ne rfl rfl) ?_
    refine JQ.go trivial (fun w H => RX.pick_f rfl (decide_eq_false (fun h => h rfl))) ?_
    refine JQ.nil fun w H => ?_
    refine J.cond_f rfl (decide_eq_false (fun h => h rfl)) ?_
    refine J.skip ?_
    refine J.seq ?_
    refine J.region ?_
    refine JL.go trivial (RX.loadAgg H rfl (i := 0) (vs := tv k n p m c) rfl rfl ag25) ?_
    refine JL.does trivial (EX.call rfl cl23 rfl ((lawLeaves_b hp ht.cons H))) ?_
    rintro _ w ⟨pl, cl, ys, sl, ss, rfl, hol, hkol, H⟩
    refine JL.go trivial (RX.movev (v := Value.tuple _) rfl) ?_
    refine JL.go trivial (RX.extract (v := .slice pl t.lvs.length cl) rfl rfl) ?_
    refine JL.go trivial (RX.extract (v := .bool true) rfl rfl) ?_
    refine JL.go trivial (RX.assignv (v := Value.slice _ _ _) rfl) ?_
    refine JL.go trivial (RX.assignv (v := Value.bool _) rfl) ?_
    refine JL.nil ?_
    refine J.seq ?_
    refine J.region ?_
    refine JL.go trivial (RX.loadAgg H rfl (i := 2) (vs := tv k n p m c) rfl rfl ag25) ?_
    refine JL.does trivial (EX.call rfl cl25 rfl ((rlv_b t (by omega) _ _ F _ _ (sub_cons (sub_cons (sub_cons (fun e he => he)))) H ht))) ?_
    rintro _ w ⟨pr, cr, zs, sr, rfl, hor, hkor, H⟩
    refine JL.go trivial (RX.assignv (v := Value.slice _ _ _) rfl) ?_
    refine JL.nil ?_
    refine J.seq ?_
    refine J.seq ?_
    refine J.region ?_
    refine JL.go trivial (RX.movev (v := Value.bool _) rfl) ?_
    refine JL.go trivial (RX.not rfl) ?_
    refine JL.go trivial (RX.movev (v := Value.bool _) rfl) ?_
    refine JL.go ⟨_, rfl, rfl⟩ (RX.movev (v := Value.slice _ _ _) rfl) ?_
    refine JL.go ⟨_, rfl, rfl⟩ (RX.len_slice rfl (by rw [sl23]; rfl) rfl) ?_
    refine JL.go ⟨_, rfl, rfl⟩ (RX.movev (v := Value.slice _ _ _) rfl) ?_
    refine JL.go ⟨_, rfl, rfl⟩ (RX.len_slice rfl (by rw [sl23]; rfl) rfl) ?_
    refine JL.go ⟨_, rfl, rfl⟩ (RX.ne rfl rfl) ?_
    refine JL.go trivial (RX.pick_f rfl rfl) ?_
    refine JL.nil ?_
    refine J.cond_f rfl (decide_eq_false (fun h => h rfl)) ?_
    refine J.skip ?_
    refine J.seq ?_
    refine J.seq ?_
    refine J.region ?_
    refine JL.go trivial (RX.movev (v := Value.slice _ _ _) rfl) ?_
    refine JL.go trivial (RX.len_slice rfl (by rw [sl23]; rfl) rfl) ?_
    refine JL.go trivial (RX.move) ?_
    refine JL.nil ?_
    refine J.block ?_
    refine J.loop (ι := Nat) (S := fun i => [(75, .int .i64 (i : Nat))]) (Φ := fun i w => i ≤ t.lvs.length ∧ Hp w0 w (sr :: sl :: ss :: [(b1, cel (tv k n p m c) 25)] :: F)) (μ := fun i => t.lvs.length - i) (C := [(8, _), (9, _), (74, _)]) 0 ⟨rfl, rfl, rfl, trivial⟩ ⟨rfl, trivial⟩ ?_ ?_
    · exact ⟨by omega, H⟩
    have hll := lvs_len _ t (Nat.le_refl _)
    clear H
    rintro i ρ w ⟨hi, H⟩ IH
    refine J.seq ?_
    refine J.region ?_
    refine JL.go trivial (RX.lt rfl rfl) ?_
    refine JL.nil ?_
    refine J.seq ?_
    refine J.cond_d rfl (fun hlt => ?_) (fun hlt => ?_)
    · skip
      obtain ⟨t1, ht1⟩ : ∃ t1, t.lvs[i]? = some t1 := ⟨_, List.getElem?_eq_getElem (by omega)⟩
      obtain ⟨a1, ha1, hi1⟩ := hkol.kids.get ht1
      obtain ⟨a2, ha2, hi2⟩ := hkor.get ht1
      have hx1 := hol.1
      have hx2 := hor.1
      have hp1 := lvs_parts _ t (Nat.le_refl _) t1 (List.mem_of_getElem? ht1)
      have hw1 := wide_small _ t1 (Nat.le_refl _) (by omega)
      obtain ⟨pb, po, rfl⟩ := spot_some (hol.slAt (L := [])) (by omega)
      obtain ⟨pb2, po2, rfl⟩ := spot_some (hor.slAt (L := [])) (by omega)
      have hi3 : t1.Is (ss :: [(b1, cel (tv k n p m c) 25)] :: F) a1 := hi1.mono (fun e he => by simp only [List.flatten_cons, List.flatten_nil, List.append_nil] at he; simp only [List.flatten_cons, List.mem_append]; exact .inl he)
      refine J.skip ?_
      refine J.seq ?_
      refine J.block ?_
      refine J.seq ?_
      refine J.region ?_
      refine JL.go trivial (RX.movev (v := Value.int _ _) rfl) ?_
      refine JL.go trivial (RX.assignv (v := Value.int _ _) rfl) ?_
      refine JL.nil ?_
      refine J.seq ?_
      refine J.quietH H hmix (by kernel_rfl) ?_
      refine JQ.go trivial (fun w H => RX.movev (v := Value.slice _ _ _) rfl) ?_
      refine JQ.go trivial (fun w H => RX.movev (v := Value.int _ _) rfl) ?_
      refine JQ.go trivial (fun w H => RX.indexAddr rfl rfl sl23 (by omega) (by omega) (o' := po + i * 3) (by omega)) ?_
      refine JQ.go trivial (fun w H => RX.loadAggS H hol.slAt.cons rfl (j := i * 3) (by omega) (vs := a1) ha1 ag25) ?_
      refine JQ.go trivial (fun w H => RX.movev (v := Value.slice _ _ _) rfl) ?_
      refine JQ.go trivial (fun w H => RX.movev (v := Value.int _ _) rfl) ?_
      refine JQ.go trivial (fun w H => RX.indexAddr rfl rfl sl23 (by omega) (by omega) (o' := po2 + i * 3) (by omega)) ?_
      refine JQ.go trivial (fun w H => RX.loadAggS H hor.slAt rfl (j := i * 3) (by omega) (vs := a2) ha2 ag25) ?_
      refine JQ.call trivial (fun w H => run_callq rfl cl12 rfl) (fun w H => (rSame_b t1 hw1 t1 _ _ _ _ _ hw1 H (Tr.Is.cons (Tr.Is.cons hi3)) (Tr.Is.cons (Tr.Is.cons (Tr.Is.cons (Tr.Is.cons hi2)))))) ?_
      refine JQ.go trivial (fun w H => RX.not rfl) ?_
      refine JQ.nil fun w H => ?_
      refine J.cond_f rfl (by rw [(Tr.same_eq t1 t1).2 rfl]; rfl) ?_
      refine J.skip ?_
      refine J.inBlock ?_
      refine J.region ?_
      refine JL.go trivial (RX.add rfl rfl (w_i64 (r := ((i + 1 : Nat) : Int)) (by omega) (by omega) (by omega))) ?_
      refine JL.go trivial (RX.movev (v := Value.int _ _) rfl) ?_
      refine JL.nil ?_
      exact IH (i + 1) _ _ (by omega) ⟨rfl, rfl, rfl, trivial⟩ ⟨rfl, trivial⟩ ⟨by omega, H⟩
    · skip
      refine J.exit rfl ?_
      refine J.seq ?_
      refine J.region ?_
      refine JL.go trivial (RX.assign) ?_
      refine JL.nil ?_
      refine J.ret1 (v := Value.bool _) Tryd.func7 rfl rfl ?_
      exact ⟨_, rfl, rfl, H.drop.drop.drop.drop⟩
end Go.Proofs.YtinbeaaloailnaaDoor
