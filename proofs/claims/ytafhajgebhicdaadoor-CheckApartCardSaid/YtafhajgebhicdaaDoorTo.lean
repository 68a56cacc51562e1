/- Touched, the code. -/
import Derived.Test.YtafhajgebhicdaaDoorTp
namespace Go.Proofs.YtafhajgebhicdaaDoor
open Go Go.Eng
set_option maxRecDepth 100000
set_option linter.unusedVariables false
set_option linter.unusedSimpArgs false
theorem cells_b {w0 w : World} {F : List Seg} {c : Cl} (H : Hp w0 w F) (hc : c.Ok) : Ret Tryd.prog 30 [.agg c.v.toArray] w fun v w' => ∃ p cp s, v = .slice p (clL c).length cp ∧ OwnSl 3 1 p (clL c).length cp (intsV (clL c)) s ∧ Hp w0 w' (s :: F) := by
  refine Calls.of_J (n := 22) Tryd.func30 rfl rfl rfl ?_
  refine J.seq ?_
  refine J.region ?_
  refine JL.does trivial (EX.box (v := Value.agg _) H rfl rfl) ?_
  rintro _ w ⟨b1, rfl, H⟩
  refine JL.go trivial (RX.assign) ?_
  refine JL.nil ?_
  refine J.seq ?_
  refine J.region ?_
  refine JL.go trivial (RX.assign) ?_
  refine JL.nil ?_
  have hm := hc.mul
  have ha0 := hc.a0
  have ha1 := hc.a1
  have hc0 := hc.c0
  have hc1 := hc.c1
  have hj0 := hc.j0
  have hj1 := hc.j1
  refine J.seq ?_
  refine J.seq ?_
  refine J.region ?_
  refine JL.go trivial (RX.fieldAddr rfl fo63_2 rfl) ?_
  refine JL.go trivial (RX.load H rfl (i := 0) (v := .int .i64 c.cnt) rfl rfl one3) ?_
  refine JL.go trivial (RX.move) ?_
  refine JL.nil ?_
  refine J.block ?_
  refine J.loop (ι := Nat × Option Addr × Nat × Seg) (S := fun q => [(7, .int .i64 (q.1 : Nat)), (3, .slice q.2.1 q.1 q.2.2.1)]) (Φ := fun q w => q.1 ≤ c.cnt.toNat ∧ OwnSl 3 1 q.2.1 q.1 q.2.2.1 (intsV (upC (fun i => c.at_ + i * c.jump) q.1)) q.2.2.2 ∧ Hp w0 w (q.2.2.2 :: [(b1, cel c.v 63)] :: F)) (μ := fun q => c.cnt.toNat - q.1) (C := [(1, _), (6, _)]) (0, none, 0, []) ⟨rfl, rfl, trivial⟩ ⟨rfl, rfl, trivial⟩ ?_ ?_
  · exact ⟨by simp, OwnSl.nil, H.nil⟩
  clear H
  rintro ⟨k, p, cp, g⟩ ρ w ⟨hk, ho, H⟩ IH
  simp only at hk ho H
  dsimp only
  refine J.seq ?_
  refine J.region ?_
  refine JL.go trivial (RX.lt rfl rfl) ?_
  refine JL.nil ?_
  refine J.seq ?_
  refine J.cond_d rfl (fun hlt => ?_) (fun hlt => ?_)
  · skip
    have him : 0 ≤ (k : Int) * c.jump ∧ (k : Int) * c.jump ≤ 1099511627776 := ⟨Int.mul_nonneg (by omega) (by omega), Int.le_trans (Int.mul_le_mul_of_nonneg_right (show (k : Int) ≤ c.cnt - 1 by omega) (by omega)) hm.2⟩
    refine J.skip ?_
    refine J.seq ?_
    refine J.block ?_
    refine J.seq ?_
    refine J.region ?_
    refine JL.go trivial (RX.movev (v := Value.int _ _) rfl) ?_
    refine JL.go trivial (RX.assignv (v := Value.int _ _) rfl) ?_
    refine JL.nil ?_
    refine J.region ?_
    refine JL.go trivial (RX.movev (v := Value.slice _ _ _) rfl) ?_
    refine JL.go trivial (RX.fieldAddr rfl fo63_0 rfl) ?_
    refine JL.go trivial (RX.load H rfl (i := 1) (v := .int .i64 c.at_) rfl rfl one3) ?_
    refine JL.go trivial (RX.movev (v := Value.int _ _) rfl) ?_
    refine JL.go trivial (RX.fieldAddr rfl fo63_1 rfl) ?_
    refine JL.go trivial (RX.load H rfl (i := 1) (v := .int .i64 c.jump) rfl rfl one3) ?_
    refine JL.go trivial (RX.mul rfl rfl (w_i64 rfl (by omega) (by omega))) ?_
    refine JL.go trivial (RX.add rfl rfl (w_i64 rfl (by omega) (by omega))) ?_
    refine JL.does trivial (EX.buildSlice1 (v := Value.int _ _) H elI rfl rfl) ?_
    rintro _ w ⟨br, rfl, H⟩
    refine JL.does trivial (EX.append (ys := [.int .i64 (c.at_ + k * c.jump)]) (L' := fun s' => [(br, cel [.int .i64 (c.at_ + k * c.jump)] 3)] :: s' :: [(b1, cel c.v 63)] :: F) H elI rfl rfl (i := 1) rfl ho (SlAt.here rfl) rfl (by simp [isCell]) (by decide) (by omega) (by omega) (fun _ => rfl)) ?_
    rintro _ w ⟨p3, c3, s3, rfl, ho3, H⟩
    refine JL.go trivial (RX.assignv (v := Value.slice _ _ _) rfl) ?_
    refine JL.nil ?_
    refine J.inBlock ?_
    refine J.region ?_
    refine JL.go trivial (RX.add rfl rfl (w_i64 (r := ((k + 1 : Nat) : Int)) (by omega) (by omega) (by omega))) ?_
    refine JL.go trivial (RX.movev (v := Value.int _ _) rfl) ?_
    refine JL.nil ?_
    rw [show intsV (upC (fun i => c.at_ + i * c.jump) k) ++ [.int .i64 (c.at_ + k * c.jump)] = intsV (upC (fun i => c.at_ + i * c.jump) (k + 1)) by rw [upC_succ, intsV_app]; rfl] at ho3
    exact IH (k + 1, p3, c3, s3) _ _ (by simp only; omega) ⟨rfl, rfl, trivial⟩ ⟨rfl, rfl, trivial⟩ ⟨by simp only; omega, ho3, H.drop⟩
  · skip
    refine J.exit rfl ?_
    refine J.seq ?_
    refine J.region ?_
    refine JL.go trivial (RX.movev (v := Value.slice _ _ _) rfl) ?_
    refine JL.go trivial (RX.assignv (v := Value.slice _ _ _) rfl) ?_
    refine JL.nil ?_
    refine J.ret1 (v := Value.slice _ _ _) Tryd.func30 rfl rfl ?_
    have hk2 : k = c.cnt.toNat := by omega
    subst hk2
    exact ⟨_, rfl, p, cp, g, by rw [clL_len], by rw [clL_len]; exact ho, (H.pull 1 rfl).drop⟩
theorem rising_b {w0 w : World} {F : List Seg} {s : Seg} {p : Option Addr} {c : Nat} {l : List Int} (H : Hp w0 w (s :: F)) (ho : OwnSl 3 1 p l.length c (intsV l) s) (hl : l.length ≤ 4398046511104) : Ret Tryd.prog 31 [.slice p l.length c] w fun v w' => ∃ s', v = .slice p (rise l).length c ∧ OwnSl 3 1 p (rise l).length c (intsV (rise l)) s' ∧ Hp w0 w' (s' :: F) := by
  refine Calls.of_J (n := 7) Tryd.func31 rfl rfl rfl ?_
  refine J.seq ?_
  refine J.region ?_
  refine JL.go trivial (RX.assign) ?_
  refine JL.nil ?_
  refine J.seq ?_
  refine J.region ?_
  refine JL.go trivial (RX.movev (v := Value.slice _ _ _) rfl) ?_
  refine JL.does trivial (EX.call rfl cl45 rfl ((sort_b H ho hl))) ?_
  rintro _ w ⟨rfl, s', ho1, H⟩
  rw [← sorted_len] at ho1
  refine JL.nil ?_
  refine J.seq ?_
  refine J.region ?_
  refine JL.go trivial (RX.movev (v := Value.slice p (sorted l).length c) (by rw [sorted_len]; rfl)) ?_
  refine JL.does trivial (EX.call rfl cl46 rfl ((compact_b H ho1 (by rw [sorted_len]; exact hl)))) ?_
  rintro _ w ⟨rfl, s2, ho2, H⟩
  refine JL.go trivial (RX.assignv (v := Value.slice _ _ _) rfl) ?_
  refine JL.nil ?_
  refine J.ret1 (v := Value.slice _ _ _) Tryd.func31 rfl rfl ?_
  exact ⟨_, rfl, s2, rfl, ho2, H⟩
set_option maxHeartbeats 1600000 in
theorem Touched_b {w0 w : World} {F : List Seg} {E : Nat → Value} (H : Hp w0 w F) (hT : SlAt F (some ⟨19, 0, none⟩) tableC) (g9 : GErr F 0 (E 9)) {s : Stp} (hs : s.Ok) : Ret Tryd.prog 19 [.agg s.v.toArray] w fun v w' => ∃ p1 c1 s1 p2 c2 s2, v = .tuple #[.slice p1 (tR s).length c1, .slice p2 (tW s).length c2, errV E (if formB s then 0 else 9)] ∧ OwnSl 3 1 p1 (tR s).length c1 (intsV (tR s)) s1 ∧ OwnSl 3 1 p2 (tW s).length c2 (intsV (tW s)) s2 ∧ Hp w0 w' (s1 :: s2 :: F) := by
  refine Calls.of_J (n := 67) Tryd.func19 rfl rfl rfl ?_
  refine J.seq ?_
  refine J.region ?_
  refine JL.does trivial (EX.box (v := Value.agg _) H rfl rfl) ?_
  rintro _ w ⟨b1, rfl, H⟩
  refine JL.go trivial (RX.assign) ?_
  refine JL.go trivial (RX.assign) ?_
  refine JL.go trivial (RX.assign) ?_
  refine JL.nil ?_
  refine J.seq ?_
  refine J.seq ?_
  refine J.region ?_
  refine JL.go trivial (RX.loadAgg H rfl (i := 0) (vs := s.v) rfl rfl ag39) ?_
  refine JL.does trivial (EX.call rfl cl28 rfl ((Form_b H g9.cons hT.cons hs))) ?_
  rintro _ w ⟨rfl, H⟩
  refine JL.go trivial (RX.assignv (v := if formB s = true then Value.nilIface else E 9) rfl) ?_
  refine JL.nil ?_
  refine J.seq ?_
  have hie : isErr (if formB s = true then Value.nilIface else E 9) = true := by cases formB s <;> first | rfl | exact g9.ie
  refine J.region ?_
  refine JL.go trivial (RX.movev (v := if formB s = true then Value.nilIface else E 9) rfl) ?_
  refine JL.go trivial (RX.ifnil_neq (v := (if formB s = true then Value.nilIface else E 9)) rfl rfl hie if30) ?_
  refine JL.nil ?_
  refine J.cond rfl (fun hfb => ?_) (fun hfb => ?_)
  · skip
    have hf : formB s = false := by
      cases h : formB s with
      | false => rfl
      | true => rw [h] at hfb; cases hfb
    refine J.seq ?_
    refine J.region ?_
    refine JL.go trivial (RX.movev (v := if formB s = true then Value.nilIface else E 9) rfl) ?_
    refine JL.go trivial (RX.assign) ?_
    refine JL.go trivial (RX.assign) ?_
    refine JL.go trivial (RX.assignv (v := if formB s = true then Value.nilIface else E 9) rfl) ?_
    refine JL.nil ?_
    refine J.ret3 (v := Value.slice _ _ _) (x := Value.slice _ _ _) Tryd.func19 rfl rfl rfl rfl ?_
    have e1 : tR s = [] := by simp [tR, hf]
    have e2 : tW s = [] := by simp [tW, hf]
    refine ⟨_, rfl, none, 0, [], none, 0, [], ?_, by rw [e1]; exact OwnSl.nil, by rw [e2]; exact OwnSl.nil, H.drop.nil.nil⟩
    show Value.tuple #[.slice none 0 0, .slice none 0 0, if formB s = true then Value.nilIface else E 9] = _
    rw [e1, e2, hf]; rfl
  · skip
    have hf : formB s = true := by
      cases h : formB s with
      | true => rfl
      | false => rw [h] at hfb; have := g9.nn; simp only [Bool.false_eq_true, if_false, this] at hfb; cases hfb
    have ff := form_facts hf
    refine J.skip ?_
    refine J.seq ?_
    refine J.region ?_
    refine JL.go trivial (RX.assign) ?_
    refine JL.go trivial (RX.assign) ?_
    refine JL.nil ?_
    refine J.seq ?_
    refine J.seq ?_
    refine J.region ?_
    refine JL.go trivial (RX.fieldAddr rfl fo39_0 rfl) ?_
    refine JL.go trivial (RX.load H rfl (i := 0) (v := .int .i64 s.op) rfl rfl one3) ?_
    refine JL.go trivial (RX.eq rfl rfl) ?_
    refine JL.nil ?_
    refine J.cond_d rfl (fun h5 => ?_) (fun h5 => ?_)
    · skip
      have hn2 := ff.2.2.2.2.2.2.2.2.2.2.2.2.2.1 h5
      refine J.seq ?_
      refine J.seq ?_
      refine J.region ?_
      refine JL.go trivial (RX.loadAgg H rfl (i := 0) (vs := s.v) rfl rfl ag39) ?_
      refine JL.does trivial (EX.call rfl cl29 rfl ((flown_b H hf))) ?_
      rintro _ w ⟨fp, fc, fg, rfl, hof, H⟩
      obtain ⟨g1, l1, rfl, hg1⟩ := hof.ptr (by omega)
      refine JL.go trivial (RX.len_slice rfl (by rw [sl60]; rfl) rfl) ?_
      refine JL.go trivial (RX.move) ?_
      refine JL.nil ?_
      refine J.block ?_
      refine J.loop (ι := Nat × Option Addr × Nat × Seg) (S := fun q => [(26, .int .i64 (q.1 : Nat)), (7, .slice q.2.1 (flyA s q.1).length q.2.2.1)]) (Φ := fun q w => q.1 ≤ s.n.toNat ∧ OwnSl 3 1 q.2.1 (flyA s q.1).length q.2.2.1 (intsV (flyA s q.1)) q.2.2.2 ∧ Hp w0 w (q.2.2.2 :: fg :: [(b1, cel s.v 39)] :: F)) (μ := fun q => s.n.toNat - q.1) (C := [(24, _), (25, _)]) (0, none, 0, []) ⟨rfl, rfl, trivial⟩ ⟨rfl, rfl, trivial⟩ ?_ ?_
      · exact ⟨by simp, OwnSl.nil, H.nil⟩
      clear H
      rintro ⟨k, p, cp, g⟩ ρ w ⟨hk, ho, H⟩ IH
      simp only at hk ho H
      dsimp only
      refine J.seq ?_
      refine J.region ?_
      refine JL.go trivial (RX.lt rfl rfl) ?_
      refine JL.nil ?_
      refine J.seq ?_
      refine J.cond_d rfl (fun hlt => ?_) (fun hlt => ?_)
      · skip
        have hrk := rowC_ok hf (k := k) (by omega)
        have hlr := hrk.len
        have hlk := fly_len hf hk
        have hle : (flyA s k).length + (clL (rowC s k)).length = (flyA s (k + 1)).length := by rw [flyA, List.length_append]
        refine J.skip ?_
        refine J.seq ?_
        refine J.block ?_
        refine J.seq ?_
        refine J.region ?_
        refine JL.go trivial (RX.indexAddr rfl rfl sl60 (by omega) (by omega) (o' := k * 3) (by omega)) ?_
        refine JL.go trivial (RX.loadAggS H hof.slAt.cons rfl (j := k * 3) (by omega) (vs := (rowC s k).v) (clsV_read (rowsC_get (by omega))) ag63) ?_
        refine JL.does trivial (EX.alloc H zr63 rfl) ?_
        rintro _ w ⟨b9, rfl, H⟩
        refine JL.does trivial (EX.storeAgg H rfl rfl (i := 0) (vs := (rowC s k).v) (l' := (rowC s k).v) rfl (cl_cell _) (by simp [Cl.v]) sz63 rfl rfl) ?_
        rintro _ w H
        refine JL.nil ?_
        refine J.region ?_
        refine JL.go trivial (RX.movev (v := Value.slice _ _ _) rfl) ?_
        refine JL.go trivial (RX.loadAgg H rfl (i := 0) (vs := (rowC s k).v) rfl rfl ag63) ?_
        refine JL.does trivial (EX.call rfl cl30 rfl ((cells_b H hrk))) ?_
        rintro _ w ⟨lp, lc, ls, rfl, hol, H⟩
        refine JL.does trivial (EX.append (ys := intsV (clL (rowC s k))) (L' := fun s' => ls :: [(b9, cel (rowC s k).v 63)] :: s' :: fg :: [(b1, cel s.v 39)] :: F) H elI rfl rfl (i := 2) rfl ho hol.slAt (by rw [intsV_len, Nat.mul_one]) (intsV_cell _) (by decide) (by omega) (by omega) (fun _ => rfl)) ?_
        rintro v w ⟨p3, c3, s3, hv, ho3, H⟩
        rw [← intsV_app, hle] at ho3
        rw [hle] at hv
        subst hv
        refine JL.go trivial (RX.assignv (v := Value.slice _ _ _) rfl) ?_
        refine JL.nil ?_
        refine J.inBlock ?_
        refine J.region ?_
        refine JL.go trivial (RX.add rfl rfl (w_i64 (r := ((k + 1 : Nat) : Int)) (by omega) (by omega) (by omega))) ?_
        refine JL.go trivial (RX.movev (v := Value.int _ _) rfl) ?_
        refine JL.nil ?_
        exact IH (k + 1, p3, c3, s3) _ _ (by simp only; omega) ⟨rfl, rfl, trivial⟩ ⟨rfl, rfl, trivial⟩ ⟨by simp only; omega, ho3, H.drop.drop⟩
      · skip
        refine J.exit rfl ?_
        refine J.seq ?_
        have hk2 : k = s.n.toNat := by omega
        subst hk2
        have hlk := fly_len hf hk
        have hpos : 0 < (flyA s s.n.toNat).length := by rw [flyA_len]; exact Nat.mul_pos (by omega) (by omega)
        refine J.region ?_
        refine JL.go trivial (RX.movev (v := Value.slice _ _ _) rfl) ?_
        refine JL.does trivial (EX.call rfl cl32 rfl ((clone_b H ho.slAt hpos (by omega)))) ?_
        rintro _ w ⟨p3, c3, s3, rfl, ho3, H⟩
        refine JL.does trivial (EX.call rfl cl31 rfl ((rising_b H ho3 (by omega)))) ?_
        rintro _ w ⟨s4, rfl, ho4, H⟩
        replace H := H.pull 1 rfl
        refine JL.go trivial (RX.movev (v := Value.slice _ _ _) rfl) ?_
        refine JL.does trivial (EX.call rfl cl31 rfl ((rising_b H ho (by omega)))) ?_
        rintro _ w ⟨s5, rfl, ho5, H⟩
        replace H := H.pull 1 rfl
        refine JL.go trivial (RX.assignv (v := Value.slice _ _ _) rfl) ?_
        refine JL.go trivial (RX.assignv (v := Value.slice _ _ _) rfl) ?_
        refine JL.go trivial (RX.assign) ?_
        refine JL.nil ?_
        refine J.ret3 (v := Value.slice _ _ _) (x := Value.slice _ _ _) Tryd.func19 rfl rfl rfl rfl ?_
        refine ⟨_, rfl, p3, c3, s4, p, cp, s5, ?_, by simp only [tR, hf, if_true, if_pos h5]; exact ho4, by simp only [tW, hf, if_true, if_pos h5]; exact ho5, (H.pull 2 rfl).drop.pull 2 rfl |>.drop.pull 1 rfl |>.pull 1 rfl⟩
        show Value.tuple #[.slice p3 (rise (flyA s s.n.toNat)).length c3, .slice p (rise (flyA s s.n.toNat)).length cp, Value.nilIface] = _
        simp only [tR, tW, hf, if_true, if_pos h5]; rfl
    · skip
      refine J.skip ?_
      refine J.seq ?_
      refine J.region ?_
      refine JL.go trivial (RX.loadAgg H rfl (i := 0) (vs := s.v) rfl rfl ag39) ?_
      refine JL.does trivial (EX.call rfl cl33 rfl ((touched_b H))) ?_
      rintro _ w ⟨rp, rc, rs, rfl, hor, H⟩
      refine JL.go trivial (RX.movev (v := Value.tuple _) rfl) ?_
      refine JL.go trivial (RX.extract rfl rfl) ?_
      refine JL.go trivial (RX.extract rfl rfl) ?_
      refine JL.go trivial (RX.extract rfl rfl) ?_
      refine JL.does trivial (EX.alloc H zr63 rfl) ?_
      rintro _ w ⟨b11, rfl, H⟩
      refine JL.go trivial (RX.assignv (v := Value.slice _ _ _) rfl) ?_
      refine JL.does trivial (EX.storeAgg H rfl rfl (i := 0) (vs := (wr s).v) (l' := (wr s).v) rfl (cl_cell _) (by simp [Cl.v]) sz63 rfl rfl) ?_
      rintro _ w H
      refine JL.go trivial (RX.assignv (v := Value.bool _) rfl) ?_
      refine JL.nil ?_
      refine J.seq ?_
      refine J.region ?_
      refine JL.go trivial (RX.loadAgg H rfl (i := 0) (vs := (wr s).v) rfl rfl ag63) ?_
      refine JL.does trivial (EX.call rfl cl30 rfl ((cells_b H (wr_ok hf)))) ?_
      rintro _ w ⟨p7, c7, s7, rfl, ho7, H⟩
      have hl7 := (wr_ok hf).len
      have hpos : 0 < (clL (wr s)).length := by rw [clL_len]; have := (wr_ok hf).c0; omega
      refine JL.go trivial (RX.assignv (v := Value.slice _ _ _) rfl) ?_
      refine JL.nil ?_
      refine J.seq ?_
      refine J.seq ?_
      refine J.region ?_
      refine JL.go trivial (RX.movev (v := Value.bool _) rfl) ?_
      refine JL.nil ?_
      refine J.cond rfl (fun hown => ?_) (fun hown => ?_)
      · skip
        have hb0 : rdA s 0 = clL (wr s) := by simp [rdA, baseL, hown]
        refine J.region ?_
        refine JL.go trivial (RX.movev (v := Value.slice _ _ _) rfl) ?_
        refine JL.does trivial (EX.call rfl cl32 rfl ((clone_b H ho7.slAt hpos (by omega)))) ?_
        rintro _ w ⟨p6, c6, s6, rfl, ho6, H⟩
        refine JL.go trivial (RX.assignv (v := Value.slice _ _ _) rfl) ?_
        refine JL.nil ?_
        refine J.seq ?_
        refine J.seq ?_
        refine J.region ?_
        refine JL.go trivial (RX.movev (v := Value.slice _ _ _) rfl) ?_
        refine JL.go trivial (RX.len_slice rfl (by rw [sl66]; rfl) rfl) ?_
        refine JL.go trivial (RX.move) ?_
        refine JL.nil ?_
        refine J.block ?_
        refine J.loop (ι := Nat × Option Addr × Nat × Seg) (S := fun q => [(53, .int .i64 (q.1 : Nat)), (6, .slice q.2.1 (rdA s q.1).length q.2.2.1)]) (Φ := fun q w => q.1 ≤ rdsN s ∧ OwnSl 3 1 q.2.1 (rdA s q.1).length q.2.2.1 (intsV (rdA s q.1)) q.2.2.2 ∧ Hp w0 w (q.2.2.2 :: s7 :: [(b11, cel (wr s).v 63)] :: rs :: [(b1, cel s.v 39)] :: F)) (μ := fun q => rdsN s - q.1) (C := [(7, _), (51, _), (52, _)]) (0, p6, c6, s6) ⟨rfl, rfl, rfl, trivial⟩ ⟨rfl, (show Value.slice _ _ _ = Value.slice _ _ _ by rw [hb0]), trivial⟩ ?_ ?_
        · exact ⟨Nat.zero_le _, by rw [hb0]; exact ho6, H⟩
        clear H
        rintro ⟨k, p, cp, g⟩ ρ w ⟨hk, ho, H⟩ IH
        simp only at hk ho H
        dsimp only
        refine J.seq ?_
        refine J.region ?_
        refine JL.go trivial (RX.lt rfl rfl) ?_
        refine JL.nil ?_
        refine J.seq ?_
        refine J.cond_d rfl (fun hlt => ?_) (fun hlt => ?_)
        · skip
          obtain ⟨rfl, hr1, r, ev, hr, hrv⟩ := rdsN_some (s := s) (k := k) (by omega)
          obtain ⟨g2, l2, rfl, hg2⟩ := hor.ptr (by omega)
          have hrk := rds_ok hf hr
          have hlr := hrk.len
          have hlb := base_len hf
          rw [hrv] at hor
          have hle : (rdA s 0).length + (clL r).length = (rdA s 1).length := by simp [rdA, rdsL, hr]
          have hap : rdA s 0 ++ clL r = rdA s 1 := by simp [rdA, rdsL, hr]
          have hl0 : (rdA s 0).length = (baseL s).length := by simp [rdA]
          refine J.skip ?_
          refine J.seq ?_
          refine J.block ?_
          refine J.seq ?_
          refine J.region ?_
          refine JL.go trivial (RX.indexAddr rfl rfl sl66 (by omega) (by omega) (o' := 0) rfl) ?_
          refine JL.go trivial (RX.loadAggS H hor.slAt.cons.cons.cons rfl (j := 0) (by omega) (vs := rdV r ev) rfl ag70) ?_
          refine JL.does trivial (EX.alloc H zr70 rfl) ?_
          rintro _ w ⟨b14, rfl, H⟩
          refine JL.does trivial (EX.storeAgg H rfl rfl (i := 0) (vs := rdV r ev) (l' := rdV r ev) rfl (by simp [rdV, Cl.v, isCell]) (by simp [rdV, Cl.v]) sz70 rfl rfl) ?_
          rintro _ w H
          refine JL.nil ?_
          refine J.region ?_
          refine JL.go trivial (RX.movev (v := Value.slice _ _ _) rfl) ?_
          refine JL.go trivial (RX.fieldAddr rfl fo70_0 rfl) ?_
          refine JL.go trivial (RX.loadAgg H rfl (i := 0) (vs := r.v) rfl rfl ag63) ?_
          refine JL.does trivial (EX.call rfl cl30 rfl ((cells_b H hrk))) ?_
          rintro _ w ⟨lp, lc, ls, rfl, hol, H⟩
          refine JL.does trivial (EX.append (ys := intsV (clL r)) (L' := fun s' => ls :: [(b14, cel (rdV r ev) 70)] :: s' :: s7 :: [(b11, cel (wr s).v 63)] :: rs :: [(b1, cel s.v 39)] :: F) H elI rfl rfl (i := 2) rfl ho hol.slAt (by rw [intsV_len, Nat.mul_one]) (intsV_cell _) (by decide) (by omega) (by omega) (fun _ => rfl)) ?_
          rintro v w ⟨p3, c3, s3, hv, ho3, H⟩
          rw [← intsV_app, hle, hap] at ho3
          rw [hle] at hv
          subst hv
          refine JL.go trivial (RX.assignv (v := Value.slice _ _ _) rfl) ?_
          refine JL.nil ?_
          refine J.inBlock ?_
          refine J.region ?_
          refine JL.go trivial (RX.add rfl rfl (w_i64 (r := ((0 + 1 : Nat) : Int)) (by omega) (by omega) (by omega))) ?_
          refine JL.go trivial (RX.movev (v := Value.int _ _) rfl) ?_
          refine JL.nil ?_
          exact IH (1, p3, c3, s3) _ _ (by simp only; omega) ⟨rfl, rfl, rfl, trivial⟩ ⟨rfl, rfl, trivial⟩ ⟨by simp only; omega, ho3, H.drop.drop⟩
        · skip
          refine J.exit rfl ?_
          refine J.seq ?_
          have hend := rdA_end hk (by omega)
          rw [hend] at ho ⊢
          have hlb := base_len hf
          have hlr : (rdsL s).length ≤ 1048576 := by
            unfold rdsL
            split
            · simp
            · rename_i r ev hr; exact (rds_ok hf hr).len
          refine J.region ?_
          refine JL.go trivial (RX.movev (v := Value.slice _ _ _) rfl) ?_
          refine JL.does trivial (EX.call rfl cl31 rfl ((rising_b H ho (by rw [List.length_append]; omega)))) ?_
          rintro _ w ⟨s4, rfl, ho4, H⟩
          replace H := H.pull 1 rfl
          refine JL.go trivial (RX.movev (v := Value.slice _ _ _) rfl) ?_
          refine JL.does trivial (EX.call rfl cl31 rfl ((rising_b H ho7 (by omega)))) ?_
          rintro _ w ⟨s5, rfl, ho5, H⟩
          replace H := H.pull 1 rfl
          refine JL.go trivial (RX.assignv (v := Value.slice _ _ _) rfl) ?_
          refine JL.go trivial (RX.assignv (v := Value.slice _ _ _) rfl) ?_
          refine JL.go trivial (RX.assign) ?_
          refine JL.nil ?_
          refine J.ret3 (v := Value.slice _ _ _) (x := Value.slice _ _ _) Tryd.func19 rfl rfl rfl rfl ?_
          refine ⟨_, rfl, p, cp, s4, p7, c7, s5, ?_, by simp only [tR, hf, if_true, if_neg h5]; exact ho4, by simp only [tW, hf, if_true, if_neg h5]; exact ho5, (H.pull 4 rfl).drop.pull 3 rfl |>.drop.pull 2 rfl |>.drop⟩
          show Value.tuple #[.slice p (rise (baseL s ++ rdsL s)).length cp, .slice p7 (rise (clL (wr s))).length c7, Value.nilIface] = _
          simp only [tR, tW, hf, if_true, if_neg h5]; rfl
      · skip
        have hb0 : rdA s 0 = [] := by simp [rdA, baseL, hown]
        refine J.skip ?_
        refine J.seq ?_
        refine J.seq ?_
        refine J.region ?_
        refine JL.go trivial (RX.movev (v := Value.slice _ _ _) rfl) ?_
        refine JL.go trivial (RX.len_slice rfl (by rw [sl66]; rfl) rfl) ?_
        refine JL.go trivial (RX.move) ?_
        refine JL.nil ?_
        refine J.block ?_
        refine J.loop (ι := Nat × Option Addr × Nat × Seg) (S := fun q => [(53, .int .i64 (q.1 : Nat)), (6, .slice q.2.1 (rdA s q.1).length q.2.2.1)]) (Φ := fun q w => q.1 ≤ rdsN s ∧ OwnSl 3 1 q.2.1 (rdA s q.1).length q.2.2.1 (intsV (rdA s q.1)) q.2.2.2 ∧ Hp w0 w (q.2.2.2 :: s7 :: [(b11, cel (wr s).v 63)] :: rs :: [(b1, cel s.v 39)] :: F)) (μ := fun q => rdsN s - q.1) (C := [(7, _), (51, _), (52, _)]) (0, none, 0, []) ⟨rfl, rfl, rfl, trivial⟩ ⟨rfl, (show Value.slice _ _ _ = Value.slice _ _ _ by rw [hb0]; rfl), trivial⟩ ?_ ?_
        · exact ⟨Nat.zero_le _, by rw [hb0]; exact OwnSl.nil, H.nil⟩
        clear H
        rintro ⟨k, p, cp, g⟩ ρ w ⟨hk, ho, H⟩ IH
        simp only at hk ho H
        dsimp only
        refine J.seq ?_
        refine J.region ?_
        refine JL.go trivial (RX.lt rfl rfl) ?_
        refine JL.nil ?_
        refine J.seq ?_
        refine J.cond_d rfl (fun hlt => ?_) (fun hlt => ?_)
        · skip
          obtain ⟨rfl, hr1, r, ev, hr, hrv⟩ := rdsN_some (s := s) (k := k) (by omega)
          obtain ⟨g2, l2, rfl, hg2⟩ := hor.ptr (by omega)
          have hrk := rds_ok hf hr
          have hlr := hrk.len
          have hlb := base_len hf
          rw [hrv] at hor
          have hle : (rdA s 0).length + (clL r).length = (rdA s 1).length := by simp [rdA, rdsL, hr]
          have hap : rdA s 0 ++ clL r = rdA s 1 := by simp [rdA, rdsL, hr]
          have hl0 : (rdA s 0).length = (baseL s).length := by simp [rdA]
          refine J.skip ?_
          refine J.seq ?_
          refine J.block ?_
          refine J.seq ?_
          refine J.region ?_
          refine JL.go trivial (RX.indexAddr rfl rfl sl66 (by omega) (by omega) (o' := 0) rfl) ?_
          refine JL.go trivial (RX.loadAggS H hor.slAt.cons.cons.cons rfl (j := 0) (by omega) (vs := rdV r ev) rfl ag70) ?_
          refine JL.does trivial (EX.alloc H zr70 rfl) ?_
          rintro _ w ⟨b14, rfl, H⟩
          refine JL.does trivial (EX.storeAgg H rfl rfl (i := 0) (vs := rdV r ev) (l' := rdV r ev) rfl (by simp [rdV, Cl.v, isCell]) (by simp [rdV, Cl.v]) sz70 rfl rfl) ?_
          rintro _ w H
          refine JL.nil ?_
          refine J.region ?_
          refine JL.go trivial (RX.movev (v := Value.slice _ _ _) rfl) ?_
          refine JL.go trivial (RX.fieldAddr rfl fo70_0 rfl) ?_
          refine JL.go trivial (RX.loadAgg H rfl (i := 0) (vs := r.v) rfl rfl ag63) ?_
          refine JL.does trivial (EX.call rfl cl30 rfl ((cells_b H hrk))) ?_
          rintro _ w ⟨lp, lc, ls, rfl, hol, H⟩
          refine JL.does trivial (EX.append (ys := intsV (clL r)) (L' := fun s' => ls :: [(b14, cel (rdV r ev) 70)] :: s' :: s7 :: [(b11, cel (wr s).v 63)] :: rs :: [(b1, cel s.v 39)] :: F) H elI rfl rfl (i := 2) rfl ho hol.slAt (by rw [intsV_len, Nat.mul_one]) (intsV_cell _) (by decide) (by omega) (by omega) (fun _ => rfl)) ?_
          rintro v w ⟨p3, c3, s3, hv, ho3, H⟩
          rw [← intsV_app, hle, hap] at ho3
          rw [hle] at hv
          subst hv
          refine JL.go trivial (RX.assignv (v := Value.slice _ _ _) rfl) ?_
          refine JL.nil ?_
          refine J.inBlock ?_
          refine J.region ?_
          refine JL.go trivial (RX.add rfl rfl (w_i64 (r := ((0 + 1 : Nat) : Int)) (by omega) (by omega) (by omega))) ?_
          refine JL.go trivial (RX.movev (v := Value.int _ _) rfl) ?_
          refine JL.nil ?_
          exact IH (1, p3, c3, s3) _ _ (by simp only; omega) ⟨rfl, rfl, rfl, trivial⟩ ⟨rfl, rfl, trivial⟩ ⟨by simp only; omega, ho3, H.drop.drop⟩
        · skip
          refine J.exit rfl ?_
          refine J.seq ?_
          have hend := rdA_end hk (by omega)
          rw [hend] at ho ⊢
          have hlb := base_len hf
          have hlr : (rdsL s).length ≤ 1048576 := by
            unfold rdsL
            split
            · simp
            · rename_i r ev hr; exact (rds_ok hf hr).len
          refine J.region ?_
          refine JL.go trivial (RX.movev (v := Value.slice _ _ _) rfl) ?_
          refine JL.does trivial (EX.call rfl cl31 rfl ((rising_b H ho (by rw [List.length_append]; omega)))) ?_
          rintro _ w ⟨s4, rfl, ho4, H⟩
          replace H := H.pull 1 rfl
          refine JL.go trivial (RX.movev (v := Value.slice _ _ _) rfl) ?_
          refine JL.does trivial (EX.call rfl cl31 rfl ((rising_b H ho7 (by omega)))) ?_
          rintro _ w ⟨s5, rfl, ho5, H⟩
          replace H := H.pull 1 rfl
          refine JL.go trivial (RX.assignv (v := Value.slice _ _ _) rfl) ?_
          refine JL.go trivial (RX.assignv (v := Value.slice _ _ _) rfl) ?_
          refine JL.go trivial (RX.assign) ?_
          refine JL.nil ?_
          refine J.ret3 (v := Value.slice _ _ _) (x := Value.slice _ _ _) Tryd.func19 rfl rfl rfl rfl ?_
          refine ⟨_, rfl, p, cp, s4, p7, c7, s5, ?_, by simp only [tR, hf, if_true, if_neg h5]; exact ho4, by simp only [tW, hf, if_true, if_neg h5]; exact ho5, (H.pull 4 rfl).drop.pull 3 rfl |>.drop.pull 2 rfl |>.drop⟩
          show Value.tuple #[.slice p (rise (baseL s ++ rdsL s)).length cp, .slice p7 (rise (clL (wr s))).length c7, Value.nilIface] = _
          simp only [tR, tW, hf, if_true, if_neg h5]; rfl
end Go.Proofs.YtafhajgebhicdaaDoor
