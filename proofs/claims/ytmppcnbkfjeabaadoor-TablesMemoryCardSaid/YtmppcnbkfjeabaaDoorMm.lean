/- TablesMemory. -/
import Derived.Test.YtmppcnbkfjeabaaDoorRt
import Derived.Test.YtmppcnbkfjeabaaDoorEh
namespace Go.Proofs.YtmppcnbkfjeabaaDoor
open Go Go.Eng
set_option maxRecDepth 100000
set_option linter.unusedVariables false
set_option linter.unusedSimpArgs false
theorem zr3 : (Tryd.prog.info? 3).bind (·.zero) = some (.int .i64 0) := by kernel_rfl

def YIc (P : Program) (l : Nat) (A B : List Int → List Seg → Prop) (w0 : World) (C : List Int → Int → Prop) (F : List Seg) : Prop := ∀ (xs : List Int) (G X : List Seg) (W : World) (x : Int), A xs G → C xs x → Hp w0 W (X ++ (G ++ F)) →
  YieldAt Fence.wide 0 P l #[.int .i64 x] W fun e W' => ∃ v, e = .returned v ∧ ∃ q G', v = .bool q ∧ (q = true → A (xs ++ [x]) G') ∧ (q = false → B (xs ++ [x]) G') ∧ Hp w0 W' (X ++ (G' ++ F))
def upTo (ys : List Int) (xs : List Int) (x : Int) : Prop := ∃ i, ys[i]? = some x ∧ xs = ys.take i
/-- What the rounds of TablesMemory keep: the loop's record, its block, the count, the outer count, the stop, the row. -/
def Am (l r b29 b28 b5 b23 : Nat) (o : Obj) (i st : Int) (pw : Option Addr) (cw : Nat) (zs : List Int) (sz : Seg) (k : Nat) : List Seg :=
  [[(l, o)], [(r, Obj.deferred (some []))], [(b29, cel [.int .i64 (k : Nat)] 3)], [(b28, cel [.int .i64 i] 3)], [(b5, cel [.int .i64 st] 3)], [(b23, cel [.slice pw zs.length cw] 22)], sz]
theorem results_c {P : Program} {w0 w : World} {L : List Seg} {n : Nat} {D : List Deferred} {σ : Env} {fn : Func} {a t b2 i T2 : Nat} {x : Value} {ac : Act} (ha : Ag D n σ ac) (h : fn.results = #[.cell a t])
    (hp2 : ev n σ (.tmp a) = .pointer (some ⟨b2, 0, none⟩)) (H : Hp w0 w L) (hi : L[i]? = some [(b2, cel [x] T2)]) (ht : oneOf P t = true) : (results fn ac.tmps).run P w = .ok x w := by
  have h1 := ha.tmp a
  rw [hp2, Array.getD_eq_getD_getElem?] at h1
  have e1 := run_loadOne (P := P) H hi ht
  simp [results, h, h1, asAddr, e1]
def MadeIs (s : TS) : Prop := s.m = (s.keys.length : Nat)
theorem MadeIs.ask {n : Int} {s s' : TS} (h : MadeIs s) (ha : Asked n s s') : MadeIs s' := by
  rcases ha with ⟨_, rfl⟩ | ⟨_, hk, hm⟩
  · exact h
  · unfold MadeIs at h ⊢
    rw [hk, hm, h, List.length_append, List.length_singleton]; omega
theorem MadeIs.lt {s : TS} (h : MadeIs s) (ok : s.ok) : s.m < 9223372036854775807 := by
  have := ok.len
  unfold MadeIs at h
  omega

theorem values1c_b {w0 w : World} {X F : List Seg} {p : Option Addr} {c bs l : Nat} {ys : List Int} {A B : List Int → List Seg → Prop} {G : List Seg} (hY : YIc Tryd.prog l A B w0 (upTo ys) F) (hb : SlAt X (some ⟨bs, 0, none⟩) [.slice p ys.length c]) (hs : SlAt X p (intsV ys)) (hl : ys.length ≤ 4611686018427387904) (hA : A [] G) (H : Hp w0 w (X ++ (G ++ F))) : Ret Tryd.prog 47 [yV l, .pointer (some ⟨bs, 0, none⟩)] w fun _ w' => (∃ G', A ys G' ∧ Hp w0 w' (X ++ (G' ++ F))) ∨ ∃ i G', i < ys.length ∧ B (ys.take (i + 1)) G' ∧ Hp w0 w' (X ++ (G' ++ F)) := by
  refine Calls.of_J (n := 16) Tryd.func47 rfl rfl rfl ?_
  refine J.seq ?_
  refine J.region ?_
  refine JL.go trivial (RX.loadS H (slAp hb) rfl (j := 0) rfl rfl one22) ?_
  refine JL.go trivial (RX.len_slice rfl (by rw [sl22]; rfl) rfl) ?_
  refine JL.go trivial (RX.move) ?_
  refine JL.nil ?_
  refine J.block ?_
  refine J.loop (ι := Nat × List Seg) (S := fun z => [(7, .int .i64 (z.1 : Nat))]) (Φ := fun z w => z.1 ≤ ys.length ∧ A (ys.take z.1) z.2 ∧ Hp w0 w (X ++ (z.2 ++ F))) (μ := fun z => ys.length - z.1) (C := [(0, _), (5, _), (6, _)]) (0, G) ⟨rfl, rfl, rfl, trivial⟩ ⟨rfl, trivial⟩ ?_ ?_
  · exact ⟨by simp, by simpa using hA, H⟩
  clear H
  rintro ⟨i, G1⟩ ρ w ⟨hi, hA1, H⟩ IH
  simp only at hi hA1 H
  dsimp only
  refine J.seq ?_
  refine J.region ?_
  refine JL.go trivial (RX.lt rfl rfl) ?_
  refine JL.nil ?_
  refine J.seq ?_
  refine J.cond_d rfl (fun hlt => ?_) (fun hlt => ?_)
  · skip
    obtain ⟨x, hx⟩ : ∃ x, ys[i]? = some x := ⟨_, List.getElem?_eq_getElem (by omega)⟩
    obtain ⟨pb, po, rfl, hpp⟩ := hs.some (by rw [intsV_len]; omega)
    refine J.skip ?_
    refine J.seq ?_
    refine J.block ?_
    refine J.seq ?_
    refine J.region ?_
    refine JL.go trivial (RX.indexAddr rfl rfl sl22 (by omega) (by omega) (o' := po + i) (by omega)) ?_
    refine JL.go trivial (RX.loadS H (slAp hs) rfl (j := i) rfl (intsV_get hx) one3) ?_
    refine JL.go trivial (RX.assignv (v := Value.int _ _) rfl) ?_
    refine JL.nil ?_
    refine J.seq ?_
    refine J.regionY ?_
    refine FL.go fair_wide rfl trivial (RX.movev (v := Value.func _ _ _) rfl) ?_
    refine FL.go fair_wide rfl trivial (RX.movev (v := Value.int _ _) rfl) ?_
    refine FL.doesIn fair_wide rfl trivial (EX.yield rfl rfl ((hY _ _ X _ x hA1 ⟨i, hx, rfl⟩ H))) ?_
    rintro _ w ⟨q, G2, rfl, hq1, hq2, H⟩
    rw [← take_succ_get hx] at hq1 hq2
    refine FL.go fair_wide rfl trivial (RX.not rfl) ?_
    refine FL.nilJ ?_
    refine J.cond rfl (fun hn => ?_) (fun hn => ?_)
    · skip
      refine J.ret0 Tryd.func47 rfl ?_
      exact ⟨_, rfl, .inr ⟨i, G2, by omega, hq2 (by simpa using hn), H⟩⟩
    · skip
      refine J.skip ?_
      refine J.inBlock ?_
      refine J.region ?_
      refine JL.go trivial (RX.add rfl rfl (w_i64 (r := ((i + 1 : Nat) : Int)) (by omega) (by omega) (by omega))) ?_
      refine JL.go trivial (RX.movev (v := Value.int _ _) rfl) ?_
      refine JL.nil ?_
      exact IH (i + 1, G2) _ _ (by simp only; omega) ⟨rfl, rfl, rfl, trivial⟩ ⟨rfl, trivial⟩ ⟨by simp only; omega, hq1 (by simpa using hn), H⟩
  · skip
    have hil : i = ys.length := by omega
    subst hil
    rw [List.take_length] at hA1
    refine J.exit rfl ?_
    refine J.end0 Tryd.func47 rfl ?_
    exact ⟨_, rfl, .inl ⟨G1, hA1, H⟩⟩
set_option maxHeartbeats 3200000 in
theorem TablesMemory_b {w0 w : World} {F : List Seg} (H : Hp w0 w F) {E : Nat → Value} {Q : Nat → Addr} (hE : Errs F E Q) {n0 st : Int} {po0 : Option Addr} {co : Nat} {others : List Int} (hs : SlAt F po0 (intsV others)) (hl : others.length ≤ 9223372036854775807) : Ret Tryd.prog 6 [.int .i64 n0, .slice po0 others.length co, .int .i64 st] w fun v w' => v = .bool true ∧ Hp w0 w' F := by
  refine Calls.of_J (n := 201) Tryd.func6 rfl rfl rfl ?_
  refine J.seq ?_
  refine J.region ?_
  refine JL.does trivial (EX.box (v := Value.int _ _) H rfl rfl) ?_
  rintro _ w ⟨b5, rfl, H⟩
  refine JL.does trivial (EX.alloc H zr4 rfl) ?_
  rintro _ w ⟨b6, rfl, H⟩
  refine JL.nil ?_
  refine J.seq ?_
  refine J.seq ?_
  refine J.region ?_
  refine JL.does trivial (EX.call rfl cl7 rfl ((fixed_b H hE.cons.cons))) ?_
  rintro _ w ⟨rfl, H⟩
  refine JL.go trivial (RX.not rfl) ?_
  refine JL.nil ?_
  refine J.cond_f rfl rfl ?_
  refine J.skip ?_
  refine J.seq ?_
  obtain ⟨n, hnn, hn1, hn2⟩ : ∃ n : Int, 1 + n0 % 18446744073709551616 % 300 = n ∧ 1 ≤ n ∧ n ≤ 300 := ⟨_, rfl, by omega, by omega⟩
  refine J.region ?_
  refine JL.go trivial (RX.movev (v := Value.int _ _) rfl) ?_
  refine JL.go trivial (RX.conv rfl (by rw [ki3]; rfl) ki41 (wrap_u64 _)) ?_
  refine JL.go trivial (RX.rem rfl rfl (by decide) (Int.tmod_eq_emod_of_nonneg (by omega))) ?_
  refine JL.go trivial (RX.conv rfl (by rw [ki41]; rfl) ki3 (w_i64 rfl (by omega) (by omega))) ?_
  refine JL.go trivial (RX.add rfl rfl (w_i64 (r := n) hnn (by omega) (by omega))) ?_
  refine JL.go trivial (RX.assignv (v := Value.int _ _) rfl) ?_
  refine JL.nil ?_
  refine J.seq ?_
  refine J.region ?_
  refine JL.does trivial (EX.call rfl cl8 rfl ((New_b H))) ?_
  rintro _ w ⟨t, mb, rfl, H⟩
  refine JL.go trivial (RX.assignv (v := Value.pointer _) rfl) ?_
  refine JL.nil ?_
  refine J.seq ?_
  refine J.seq ?_
  refine J.region ?_
  refine JL.go trivial (RX.movev (v := Value.pointer _) rfl) ?_
  refine JL.go trivial (RX.ptrnil_eql rfl rfl pn24) ?_
  refine JL.nil ?_
  refine J.cond_f rfl rfl ?_
  refine J.skip ?_
  refine J.seq ?_
  refine J.region ?_
  refine JL.go trivial (RX.movev (v := Value.pointer _) rfl) ?_
  refine JL.go trivial (RX.movev (v := Value.int _ _) rfl) ?_
  refine JL.does trivial (EX.call rfl cl10 rfl ((List_b H (newTS_ok mb) hn1 (by omega) (by show (0 : Int) < _; decide)))) ?_
  rintro _ w ⟨s1, pa, ca, as0, sa, rfl, hoa, hra, ok1, hask1, H⟩
  have hmi1 := MadeIs.ask (s := newTS mb) rfl hask1
  replace H := (((H.pull 3 rfl).pull 3 rfl).pull 3 rfl)
  refine JL.go trivial (RX.movev (v := Value.tuple _) rfl) ?_
  refine JL.go trivial (RX.extract rfl rfl) ?_
  refine JL.go trivial (RX.extract rfl rfl) ?_
  refine JL.go trivial (RX.assignv (v := Value.slice _ _ _) rfl) ?_
  refine JL.go trivial (RX.assign) ?_
  refine JL.nil ?_
  refine J.seq ?_
  refine J.region ?_
  refine JL.go trivial (RX.movev (v := Value.pointer _) rfl) ?_
  refine JL.go trivial (RX.movev (v := Value.int _ _) rfl) ?_
  refine JL.does trivial (EX.call rfl cl10 rfl ((List_b H ok1 hn1 (by omega) (hmi1.lt ok1)))) ?_
  rintro _ w ⟨s2, pb, cb, bs0, sb, rfl, hob, hrb, ok2, hask2, H⟩
  have hmi2 := hmi1.ask hask2
  replace H := ((((H.pull 4 rfl).pull 4 rfl).pull 4 rfl).pull 4 rfl)
  refine JL.go trivial (RX.movev (v := Value.tuple _) rfl) ?_
  refine JL.go trivial (RX.extract rfl rfl) ?_
  refine JL.go trivial (RX.extract rfl rfl) ?_
  refine JL.go trivial (RX.assignv (v := Value.slice _ _ _) rfl) ?_
  refine JL.go trivial (RX.assign) ?_
  refine JL.nil ?_
  refine J.seq ?_
  refine J.region ?_
  refine JL.go trivial (RX.movev (v := Value.int _ _) rfl) ?_
  refine JL.does trivial (EX.call rfl cl16 rfl ((All_b H hn1 (by omega)))) ?_
  rintro _ w ⟨bw, ws, rfl, hrw, H⟩
  obtain ⟨ga, la, rfl, rfl, hnca, hla, hta⟩ := hoa.ptr (by omega)
  replace H := (((((H.pull 5 rfl).pull 5 rfl).pull 5 rfl).pull 5 rfl).pull 5 rfl)
  replace H : Hp w0 w (s2.tb t 0 :: s2.mp :: s2.ts :: [(ga, cel (la) 26)] :: sb :: [(bw, cel (ws) 26)] :: [(b6, cel [.bool false] 4)] :: [(b5, cel [.int .i64 st] 3)] :: F) := H
  refine JL.go trivial (RX.movev (v := Value.tuple _) rfl) ?_
  refine JL.go trivial (RX.extract rfl rfl) ?_
  refine JL.go trivial (RX.extract rfl rfl) ?_
  refine JL.go trivial (RX.assignv (v := Value.slice _ _ _) rfl) ?_
  refine JL.go trivial (RX.assign) ?_
  refine JL.nil ?_
  refine J.seq ?_
  refine J.seq ?_
  refine J.region ?_
  refine JL.go trivial (RX.move) ?_
  refine JL.go trivial (RX.ifnil_neq rfl rfl rfl if28) ?_
  refine JL.go trivial (RX.movev (v := Value.bool _) rfl) ?_
  refine JL.go ⟨_, rfl, rfl⟩ (RX.move) ?_
  refine JL.go ⟨_, rfl, rfl⟩ (RX.ifnil_neq rfl rfl rfl if28) ?_
  refine JL.go trivial (RX.pick_f rfl rfl) ?_
  refine JL.go trivial (RX.movev (v := Value.bool _) rfl) ?_
  refine JL.go ⟨_, rfl, rfl⟩ (RX.move) ?_
  refine JL.go ⟨_, rfl, rfl⟩ (RX.ifnil_neq rfl rfl rfl if28) ?_
  refine JL.go trivial (RX.pick_f rfl rfl) ?_
  refine JL.nil ?_
  refine J.cond_f rfl rfl ?_
  refine J.skip ?_
  refine J.seq ?_
  refine J.seq ?_
  refine J.region ?_
  refine JL.go trivial (RX.movev (v := Value.slice _ _ _) rfl) ?_
  refine JL.go trivial (RX.len_slice rfl (by rw [sl31]; rfl) rfl) ?_
  refine JL.go trivial (RX.move) ?_
  refine JL.nil ?_
  refine J.block ?_
  refine J.loop (ι := Nat × List Value × List Value) (S := fun z => [(70, .int .i64 (z.1 : Nat))]) (Φ := fun z w => (z.1 ≤ n.toNat ∧ OwnSl 26 1 (some ⟨ga, 0, none⟩) n.toNat ca z.2.1 [(ga, cel z.2.2 26)]) ∧ Hp w0 w (s2.tb t 0 :: s2.mp :: s2.ts :: [(ga, cel (z.2.2) 26)] :: sb :: [(bw, cel (ws) 26)] :: [(b6, cel [.bool false] 4)] :: [(b5, cel [.int .i64 st] 3)] :: F)) (μ := fun z => n.toNat - z.1) (C := [(0, _), (1, _), (5, _), (6, _), (7, _), (8, _), (10, _), (12, _), (30, _), (69, _), (165, _), (166, _), (167, _), (168, _), (169, _), (170, _), (171, _), (172, _), (173, _), (174, _), (175, _), (176, _), (177, _), (178, _), (179, _), (180, _), (181, _), (182, _), (183, _), (184, _), (185, _), (186, _)]) (0, as0, la) ⟨rfl, rfl, rfl, rfl, rfl, rfl, rfl, rfl, rfl, rfl, rfl, rfl, rfl, rfl, rfl, rfl, rfl, rfl, rfl, rfl, rfl, rfl, rfl, rfl, rfl, rfl, rfl, rfl, rfl, rfl, rfl, rfl, trivial⟩ ⟨rfl, trivial⟩ ?_ ?_
  · exact ⟨⟨by simp, hoa⟩, H⟩
  clear H hoa hta hla
  rintro ⟨k, xs, l⟩ ρ w ⟨⟨hk, hoa⟩, H⟩ IH
  simp only at hk hoa H
  have hll : l.length = ca := by
    obtain ⟨g2, l3, e1, e2, e3, e4, e5⟩ := hoa.ptr (by omega)
    cases e2
    omega
  dsimp only
  refine J.seq ?_
  refine J.region ?_
  refine JL.go trivial (RX.lt rfl rfl) ?_
  refine JL.nil ?_
  refine J.seq ?_
  refine J.cond_d rfl (fun hlt => ?_) (fun hlt => ?_)
  · skip
    refine J.skip ?_
    refine J.seq ?_
    refine J.block ?_
    refine J.seq ?_
    refine J.region ?_
    refine JL.go trivial (RX.movev (v := Value.int _ _) rfl) ?_
    refine JL.go trivial (RX.assignv (v := Value.int _ _) rfl) ?_
    refine JL.nil ?_
    refine J.region ?_
    refine JL.go trivial (RX.movev (v := Value.slice _ _ _) rfl) ?_
    refine JL.go trivial (RX.movev (v := Value.int _ _) rfl) ?_
    refine JL.go trivial (RX.indexAddr rfl rfl sl31 (by omega) (by omega) (o' := k) (by omega)) ?_
    refine JL.does trivial (EX.store (v := Value.complex _ _ _) H rfl rfl (i := 3) rfl rfl (by omega) sz26 rfl rfl) ?_
    rintro _ w H
    refine JL.nil ?_
    refine J.inBlock ?_
    refine J.region ?_
    refine JL.go trivial (RX.add rfl rfl (w_i64 (r := ((k + 1 : Nat) : Int)) (by omega) (by omega) (by omega))) ?_
    refine JL.go trivial (RX.movev (v := Value.int _ _) rfl) ?_
    refine JL.nil ?_
    exact IH (k + 1, _, _) _ _ (by simp only; omega) ⟨rfl, rfl, rfl, rfl, rfl, rfl, rfl, rfl, rfl, rfl, rfl, rfl, rfl, rfl, rfl, rfl, rfl, rfl, rfl, rfl, rfl, rfl, rfl, rfl, rfl, rfl, rfl, rfl, rfl, rfl, rfl, rfl, trivial⟩ ⟨rfl, trivial⟩ ⟨⟨by simp only; omega, hoa.set⟩, H⟩
  · skip
    clear IH
    refine J.exit rfl ?_
    refine J.seq ?_
    refine J.region ?_
    refine JL.go trivial (RX.movev (v := Value.slice _ _ _) rfl) ?_
    refine JL.go trivial (RX.assignv (v := Value.slice _ _ _) rfl) ?_
    refine JL.nil ?_
    refine J.seq ?_
    refine J.seq ?_
    refine J.region ?_
    refine JL.go trivial (RX.assign) ?_
    refine JL.nil ?_
    refine J.block ?_
    refine J.loop (ι := Nat × Option Addr × Nat × List Value × Seg) (S := fun z => [(16, .int .i64 (z.1 : Nat)), (15, .slice z.2.1 (n.toNat + z.1) z.2.2.1)]) (Φ := fun z w => (z.1 ≤ 50 ∧ OwnSl 26 1 z.2.1 (n.toNat + z.1) z.2.2.1 z.2.2.2.1 z.2.2.2.2) ∧ Hp w0 w (s2.tb t 0 :: s2.mp :: s2.ts :: z.2.2.2.2 :: sb :: [(bw, cel (ws) 26)] :: [(b6, cel [.bool false] 4)] :: [(b5, cel [.int .i64 st] 3)] :: F)) (μ := fun z => 50 - z.1) (C := [(0, _), (1, _), (5, _), (6, _), (7, _), (10, _), (12, _), (30, _), (165, _), (166, _), (167, _), (168, _), (169, _), (170, _), (171, _), (172, _), (173, _), (174, _), (175, _), (176, _), (177, _), (178, _), (179, _), (180, _), (181, _), (182, _), (183, _), (184, _), (185, _), (186, _)]) (0, some ⟨ga, 0, none⟩, ca, xs, [(ga, cel l 26)]) ⟨rfl, rfl, rfl, rfl, rfl, rfl, rfl, rfl, rfl, rfl, rfl, rfl, rfl, rfl, rfl, rfl, rfl, rfl, rfl, rfl, rfl, rfl, rfl, rfl, rfl, rfl, rfl, rfl, rfl, rfl, trivial⟩ ⟨rfl, rfl, trivial⟩ ?_ ?_
    · exact ⟨⟨by simp, hoa⟩, H⟩
    clear H hoa
    rintro ⟨j, pg, cg, gs, sg⟩ ρ w ⟨⟨hj, hog⟩, H⟩ IH
    simp only at hj hog H
    dsimp only
    refine J.seq ?_
    refine J.seq ?_
    refine J.region ?_
    refine JL.go trivial (RX.movev (v := Value.int _ _) rfl) ?_
    refine JL.go trivial (RX.lt rfl rfl) ?_
    refine JL.nil ?_
    refine J.cond_d rfl (fun hlt2 => ?_) (fun hlt2 => ?_)
    · skip
      refine J.skip ?_
      refine J.seq ?_
      refine J.block ?_
      refine J.region ?_
      refine JL.go trivial (RX.movev (v := Value.slice _ _ _) rfl) ?_
      refine JL.does trivial (EX.buildSlice1 H elC rfl rfl) ?_
      rintro _ w ⟨bz, rfl, H⟩
      refine JL.does trivial (EX.append (ys := [.complex .f64 4618441417868443648 4618441417868443648]) (L' := fun s' => [(bz, cel [.complex .f64 4618441417868443648 4618441417868443648] 26)] :: s2.tb t 0 :: s2.mp :: s2.ts :: s' :: sb :: [(bw, cel (ws) 26)] :: [(b6, cel [.bool false] 4)] :: [(b5, cel [.int .i64 st] 3)] :: F) H elC rfl rfl (i := 4) rfl hog (SlAt.here rfl) rfl (fun v hv => by rw [List.mem_singleton.1 hv]; rfl) (by decide) (by omega) (by omega) (fun _ => rfl)) ?_
      rintro _ w ⟨p3, c3, s3, rfl, ho3, H⟩
      refine JL.go trivial (RX.assignv (v := Value.slice _ _ _) rfl) ?_
      refine JL.nil ?_
      refine J.inBlock ?_
      refine J.region ?_
      refine JL.go trivial (RX.movev (v := Value.int _ _) rfl) ?_
      refine JL.go trivial (RX.add rfl rfl (w_i64 (r := ((j + 1 : Nat) : Int)) (by omega) (by omega) (by omega))) ?_
      refine JL.go trivial (RX.assignv (v := Value.int _ _) rfl) ?_
      refine JL.nil ?_
      exact IH (j + 1, p3, c3, _, s3) _ _ (by simp only; omega) ⟨rfl, rfl, rfl, rfl, rfl, rfl, rfl, rfl, rfl, rfl, rfl, rfl, rfl, rfl, rfl, rfl, rfl, rfl, rfl, rfl, rfl, rfl, rfl, rfl, rfl, rfl, rfl, rfl, rfl, rfl, trivial⟩ ⟨rfl, rfl, trivial⟩ ⟨⟨by simp only; omega, ho3⟩, H.drop⟩
    · skip
      clear IH
      refine J.exit rfl ?_
      refine J.seq ?_
      refine J.region ?_
      refine JL.go trivial (RX.movev (v := Value.pointer _) rfl) ?_
      refine JL.go trivial (RX.movev (v := Value.int _ _) rfl) ?_
      refine JL.does trivial (EX.call rfl cl9 rfl ((At_b (k := 1) H ok2 hn1 (by omega) (hmi2.lt ok2) (by decide)))) ?_
      rintro _ w ⟨s3, c0, c1, rfl, hc0, hc1, ok3, hask3, H⟩
      have hmi3 := hmi2.ask hask3
      refine JL.go trivial (RX.movev (v := Value.tuple _) rfl) ?_
      refine JL.go trivial (RX.extract rfl rfl) ?_
      refine JL.go trivial (RX.extract rfl rfl) ?_
      refine JL.go trivial (RX.assignv (v := Value.complex _ _ _) rfl) ?_
      refine JL.go trivial (RX.assign) ?_
      refine JL.nil ?_
      refine J.seq ?_
      refine J.region ?_
      refine JL.go trivial (RX.movev (v := Value.int _ _) rfl) ?_
      refine JL.does trivial (EX.call rfl cl14 rfl ((Root_b H hn1 (by omega) (by decide)))) ?_
      rintro _ w ⟨d0, d1, rfl, hd0, hd1, H⟩
      have hcd : cn c0 = cn d0 ∧ cn c1 = cn d1 := ⟨hc0.trans hd0.symm, hc1.trans hd1.symm⟩
      refine JL.go trivial (RX.movev (v := Value.tuple _) rfl) ?_
      refine JL.go trivial (RX.extract rfl rfl) ?_
      refine JL.go trivial (RX.extract rfl rfl) ?_
      refine JL.go trivial (RX.assignv (v := Value.complex _ _ _) rfl) ?_
      refine JL.go trivial (RX.assign) ?_
      refine JL.nil ?_
      refine J.seq ?_
      refine J.region ?_
      refine JL.go trivial (RX.movev (v := Value.pointer _) rfl) ?_
      refine JL.go trivial (RX.movev (v := Value.int _ _) rfl) ?_
      refine JL.does trivial (EX.call rfl cl10 rfl ((List_b H ok3 hn1 (by omega) (hmi3.lt ok3)))) ?_
      rintro _ w ⟨s4, pf, cf, fs, sf, rfl, hof, hrf, ok4, hask4, H⟩
      have hmi4 := hmi3.ask hask4
      replace H := ((((((H.pull 6 rfl).pull 6 rfl).pull 6 rfl).pull 6 rfl).pull 6 rfl).pull 6 rfl)
      replace H : Hp w0 w (s4.tb t 0 :: s4.mp :: s4.ts :: sg :: sb :: [(bw, cel (ws) 26)] :: sf :: [(b6, cel [.bool false] 4)] :: [(b5, cel [.int .i64 st] 3)] :: F) := H
      refine JL.go trivial (RX.movev (v := Value.tuple _) rfl) ?_
      refine JL.go trivial (RX.extract rfl rfl) ?_
      refine JL.go trivial (RX.extract rfl rfl) ?_
      refine JL.go trivial (RX.assignv (v := Value.slice _ _ _) rfl) ?_
      refine JL.go trivial (RX.assign) ?_
      refine JL.nil ?_
      refine J.seq ?_
      refine J.seq ?_
      refine J.region ?_
      refine JL.go trivial (RX.move) ?_
      refine JL.go trivial (RX.ifnil_neq rfl rfl rfl if28) ?_
      refine JL.go trivial (RX.movev (v := Value.bool _) rfl) ?_
      refine JL.go ⟨_, rfl, rfl⟩ (RX.move) ?_
      refine JL.go ⟨_, rfl, rfl⟩ (RX.ifnil_neq rfl rfl rfl if28) ?_
      refine JL.go trivial (RX.pick_f rfl rfl) ?_
      refine JL.go trivial (RX.movev (v := Value.bool _) rfl) ?_
      refine JL.go ⟨_, rfl, rfl⟩ (RX.move) ?_
      refine JL.go ⟨_, rfl, rfl⟩ (RX.ifnil_neq rfl rfl rfl if28) ?_
      refine JL.go trivial (RX.pick_f rfl rfl) ?_
      refine JL.go trivial (RX.movev (v := Value.bool _) rfl) ?_
      refine JL.go ⟨_, rfl, rfl⟩ (RX.movev (v := Value.complex _ _ _) rfl) ?_
      refine JL.go ⟨_, rfl, rfl⟩ (RX.movev (v := Value.complex _ _ _) rfl) ?_
      refine JL.does ⟨_, rfl, rfl⟩ (EX.call rfl cl15 rfl ((rSame2_b H))) ?_
      rintro _ w ⟨rfl, H⟩
      refine JL.go ⟨_, rfl, rfl⟩ (RX.not rfl) ?_
      refine JL.go trivial (RX.pick_f rfl rfl) ?_
      refine JL.go trivial (RX.movev (v := Value.bool _) rfl) ?_
      refine JL.go ⟨_, rfl, (by rw [decide_eq_true hcd]; rfl)⟩ (RX.movev (v := Value.slice _ _ _) rfl) ?_
      refine JL.go ⟨_, rfl, (by rw [decide_eq_true hcd]; rfl)⟩ (RX.movev (v := Value.slice _ _ _) rfl) ?_
      refine JL.does ⟨_, rfl, (by rw [decide_eq_true hcd]; rfl)⟩ (EX.call rfl cl17 rfl ((rSameList_b H (SlAt.cons (SlAt.cons (SlAt.cons (SlAt.cons hob.slAt)))) (SlAt.cons (SlAt.cons (SlAt.cons (SlAt.cons (SlAt.cons (SlAt.here (by rw [List.take_length]))))))) hrb.1 (by omega) (hrb.alike hrw)))) ?_
      rintro _ w ⟨rfl, H⟩
      refine JL.go ⟨_, rfl, (by rw [decide_eq_true hcd]; rfl)⟩ (RX.not rfl) ?_
      refine JL.go trivial (RX.pick_f rfl (by rw [decide_eq_true hcd]; rfl)) ?_
      refine JL.go trivial (RX.movev (v := Value.bool _) rfl) ?_
      refine JL.go ⟨_, rfl, rfl⟩ (RX.movev (v := Value.slice _ _ _) rfl) ?_
      refine JL.go ⟨_, rfl, rfl⟩ (RX.movev (v := Value.slice _ _ _) rfl) ?_
      refine JL.does ⟨_, rfl, rfl⟩ (EX.call rfl cl17 rfl ((rSameList_b H (SlAt.cons (SlAt.cons (SlAt.cons (SlAt.cons (SlAt.cons (SlAt.cons hof.slAt)))))) (SlAt.cons (SlAt.cons (SlAt.cons (SlAt.cons (SlAt.cons (SlAt.here (by rw [List.take_length]))))))) hrf.1 (by omega) (hrf.alike hrw)))) ?_
      rintro _ w ⟨rfl, H⟩
      refine JL.go ⟨_, rfl, rfl⟩ (RX.not rfl) ?_
      refine JL.go trivial (RX.pick_f rfl rfl) ?_
      refine JL.nil ?_
      refine J.cond_f rfl rfl ?_
      refine J.skip ?_
      refine J.seq ?_
      refine J.region ?_
      refine JL.go trivial (RX.movev (v := Value.pointer _) rfl) ?_
      refine JL.does trivial (EX.call rfl cl18 rfl ((sizes_b H ok4))) ?_
      rintro _ w ⟨zs, pw, cw, sz, rfl, hzp, hzs, hoz, H⟩
      have hzl : zs.length ≤ 16384 := by rw [hzp.length_eq]; exact ok4.len
      refine JL.go trivial (RX.movev (v := Value.tuple _) rfl) ?_
      refine JL.go trivial (RX.extract rfl rfl) ?_
      refine JL.go trivial (RX.extract rfl rfl) ?_
      refine JL.does trivial (EX.alloc H zr22 rfl) ?_
      rintro _ w ⟨b23, rfl, H⟩
      refine JL.does trivial (EX.store (v := Value.slice _ _ _) H rfl rfl (i := 0) (l' := [.slice pw zs.length cw]) rfl rfl (by simp) sz22 rfl rfl) ?_
      rintro _ w H
      refine JL.go trivial (RX.assignv (v := Value.bool _) rfl) ?_
      refine JL.nil ?_
      replace H := ((((((((((((H.pull 10 rfl).pull 10 rfl).pull 3 rfl).pull 3 rfl).pull 6 rfl).pull 6 rfl).pull 6 rfl).pull 10 rfl).pull 10 rfl).pull 10 rfl).pull 10 rfl)).drop.drop.drop.drop
      replace H : Hp w0 w (s4.tb t 0 :: s4.mp :: s4.ts :: [(b23, cel [.slice pw zs.length cw] 22)] :: sz :: [(b6, cel [.bool false] 4)] :: [(b5, cel [.int .i64 st] 3)] :: F) := H
      refine J.seq ?_
      refine J.region ?_
      refine JL.go trivial (RX.movev (v := Value.pointer _) rfl) ?_
      refine JL.does trivial (EX.call rfl cl22 rfl ((Sizes_b H ok4))) ?_
      rintro _ w ⟨bs, zs2, pz, cz, sw, rfl, hzp2, hzs2, how, H⟩
      have hzlt := lt_of_le hzs (hzp.nodup_iff.2 ok4.ndk)
      obtain rfl := (same_rows hzs2 hzlt (hzp2.trans hzp.symm)).symm
      replace H := (((((H.pull 1 rfl).pull 1 rfl).pull 4 rfl).pull 4 rfl).pull 4 rfl)
      replace H : Hp w0 w (s4.tb t 0 :: s4.mp :: s4.ts :: [(bs, cel [.slice pz zs.length cz] 22)] :: sw :: [(b23, cel [.slice pw zs.length cw] 22)] :: sz :: [(b6, cel [.bool false] 4)] :: [(b5, cel [.int .i64 st] 3)] :: F) := H
      refine JL.go trivial (RX.assignv (v := Value.func _ _ _) rfl) ?_
      refine JL.nil ?_
      refine J.seq ?_
      refine J.seq ?_
      refine J.region ?_
      refine JL.go trivial (RX.movev (v := Value.bool _) rfl) ?_
      refine JL.go trivial (RX.not rfl) ?_
      refine JL.go trivial (RX.movev (v := Value.bool _) rfl) ?_
      refine JL.go ⟨_, rfl, rfl⟩ (RX.movev (v := Value.func _ _ _) rfl) ?_
      refine JL.go ⟨_, rfl, rfl⟩ (RX.funcnil_eql (fn := _) (u := _) (z := _) rfl rfl (by kernel_rfl)) ?_
      refine JL.go trivial (RX.pick_f rfl rfl) ?_
      refine JL.nil ?_
      refine J.cond_f rfl rfl ?_
      refine J.skip ?_
      refine J.seq ?_
      refine J.seq ?_
      refine J.region ?_
      refine JL.go trivial (RX.movev (v := Value.slice _ _ _) rfl) ?_
      refine JL.go trivial (RX.len_slice rfl (by rw [sl22]; rfl) rfl) ?_
      refine JL.go trivial (RX.move) ?_
      refine JL.nil ?_
      refine J.block ?_
      refine J.loop (ι := Nat × TS) (S := fun z => [(145, .int .i64 (z.1 : Nat))]) (Φ := fun z w => (z.1 ≤ others.length ∧ z.2.ok ∧ MadeIs z.2) ∧ Hp w0 w (z.2.tb t 0 :: z.2.mp :: z.2.ts :: [(bs, cel [.slice pz zs.length cz] 22)] :: sw :: [(b23, cel [.slice pw zs.length cw] 22)] :: sz :: [(b6, cel [.bool false] 4)] :: [(b5, cel [.int .i64 st] 3)] :: F)) (μ := fun z => others.length - z.1) (C := [(0, _), (5, _), (6, _), (7, _), (23, _), (25, _), (30, _), (143, _), (144, _), (165, _), (166, _), (167, _), (168, _), (169, _), (170, _), (171, _), (172, _), (173, _), (174, _), (175, _), (176, _), (177, _), (178, _), (179, _), (180, _), (181, _), (182, _), (183, _), (184, _), (185, _), (186, _)]) (0, s4) ⟨rfl, rfl, rfl, rfl, rfl, rfl, rfl, rfl, rfl, rfl, rfl, rfl, rfl, rfl, rfl, rfl, rfl, rfl, rfl, rfl, rfl, rfl, rfl, rfl, rfl, rfl, rfl, rfl, rfl, rfl, rfl, trivial⟩ ⟨rfl, trivial⟩ ?_ ?_
      · exact ⟨⟨by simp, ok4, hmi4⟩, H⟩
      clear H
      rintro ⟨i, s5⟩ ρ w ⟨⟨hi, ok5, hmi5⟩, H⟩ IH
      simp only at hi ok5 hmi5 H
      dsimp only
      refine J.seq ?_
      refine J.region ?_
      refine JL.go trivial (RX.lt rfl rfl) ?_
      refine JL.nil ?_
      refine J.seq ?_
      refine J.cond_d rfl (fun hlt3 => ?_) (fun hlt3 => ?_)
      · skip
        obtain ⟨x, hget⟩ : ∃ x, others[i]? = some x := ⟨_, List.getElem?_eq_getElem (by omega)⟩
        obtain ⟨pq, po, rfl, hpp⟩ := hs.some (by rw [intsV_len]; omega)
        refine J.skip ?_
        refine J.seq ?_
        refine J.block ?_
        refine J.seq ?_
        refine J.region ?_
        refine JL.go trivial (RX.indexAddr rfl rfl sl22 (by omega) (by omega) (o' := po + i) (by omega)) ?_
        refine JL.go trivial (RX.loadS H (SlAt.cons (SlAt.cons (SlAt.cons (SlAt.cons (SlAt.cons (SlAt.cons (SlAt.cons (SlAt.cons (SlAt.cons hs))))))))) rfl (j := i) rfl (intsV_get hget) one3) ?_
        refine JL.go trivial (RX.assignv (v := Value.int _ _) rfl) ?_
        refine JL.nil ?_
        obtain ⟨n3, hnn3, hn31, hn32⟩ : ∃ n : Int, 1 + x % 18446744073709551616 % 300 = n ∧ 1 ≤ n ∧ n ≤ 300 := ⟨_, rfl, by omega, by omega⟩
        refine J.region ?_
        refine JL.go trivial (RX.movev (v := Value.pointer _) rfl) ?_
        refine JL.go trivial (RX.movev (v := Value.int _ _) rfl) ?_
        refine JL.go trivial (RX.conv rfl (by rw [ki3]; rfl) ki41 (wrap_u64 _)) ?_
        refine JL.go trivial (RX.rem rfl rfl (by decide) (Int.tmod_eq_emod_of_nonneg (by omega))) ?_
        refine JL.go trivial (RX.conv rfl (by rw [ki41]; rfl) ki3 (w_i64 rfl (by omega) (by omega))) ?_
        refine JL.go trivial (RX.add rfl rfl (w_i64 (r := n3) hnn3 (by omega) (by omega))) ?_
        refine JL.does trivial (EX.call rfl cl9 rfl ((At_b (k := 0) H ok5 hn31 (by omega) (hmi5.lt ok5) (by decide)))) ?_
        rintro _ w ⟨s6, e0, e1, rfl, he0, he1, ok6, hask6, H⟩
        refine JL.nil ?_
        refine J.inBlock ?_
        refine J.region ?_
        refine JL.go trivial (RX.add rfl rfl (w_i64 (r := ((i + 1 : Nat) : Int)) (by omega) (by omega) (by omega))) ?_
        refine JL.go trivial (RX.movev (v := Value.int _ _) rfl) ?_
        refine JL.nil ?_
        exact IH (i + 1, s6) _ _ (by simp only; omega) ⟨rfl, rfl, rfl, rfl, rfl, rfl, rfl, rfl, rfl, rfl, rfl, rfl, rfl, rfl, rfl, rfl, rfl, rfl, rfl, rfl, rfl, rfl, rfl, rfl, rfl, rfl, rfl, rfl, rfl, rfl, rfl, trivial⟩ ⟨rfl, trivial⟩ ⟨⟨by simp only; omega, ok6, hmi5.ask hask6⟩, H⟩
      · skip
        clear IH
        refine J.exit rfl ?_
        refine J.seq ?_
        refine J.region ?_
        refine JL.go trivial (RX.movev (v := Value.pointer _) rfl) ?_
        refine JL.go trivial (RX.movev (v := Value.int _ _) rfl) ?_
        refine JL.does trivial (EX.call rfl cl13 rfl ((Drop_b H ok5 (n := n)))) ?_
        rintro _ w ⟨rfl, H⟩
        refine JL.nil ?_
        refine J.seq ?_
        refine J.seq ?_
        refine J.region ?_
        refine JL.does trivial (EX.alloc H zr3 rfl) ?_
        rintro _ w ⟨b28, rfl, H⟩
        refine JL.does trivial (EX.store (v := Value.int _ _) H rfl rfl (i := 0) (l' := [.int .i64 0]) rfl rfl (by simp) sz3 rfl rfl) ?_
        rintro _ w H
        refine JL.nil ?_
        replace H := (((((((((((H.pull 8 rfl).pull 8 rfl).pull 8 rfl).pull 9 rfl).pull 4 rfl).pull 9 rfl).pull 9 rfl).pull 9 rfl).pull 9 rfl).pull 9 rfl)).drop.drop.drop
        replace H : Hp w0 w ([(bs, cel [.slice pz zs.length cz] 22)] :: sw :: [(b28, cel [.int .i64 0] 3)] :: [(b5, cel [.int .i64 st] 3)] :: [(b23, cel [.slice pw zs.length cw] 22)] :: sz :: [(b6, cel [.bool false] 4)] :: F) := H
        refine J.block ?_
        refine J.unroll ?_
        refine J.seq ?_
        refine J.seq ?_
        refine J.region ?_
        refine JL.go trivial (RX.load H rfl (i := 2) (v := .int .i64 0) rfl rfl one3) ?_
        refine JL.go trivial (RX.lt rfl rfl) ?_
        refine JL.nil ?_
        refine J.cond_t rfl (decide_eq_true (by decide)) ?_
        refine J.skip ?_
        refine J.seq ?_
        refine J.block ?_
        refine J.seq ?_
        refine J.region ?_
        refine JL.does trivial (EX.alloc H zr3 rfl) ?_
        rintro _ w ⟨b29, rfl, H⟩
        refine JL.does trivial (EX.store (v := Value.int _ _) H rfl rfl (i := 0) (l' := [.int .i64 0]) rfl rfl (by simp) sz3 rfl rfl) ?_
        rintro _ w H
        refine JL.nil ?_
        refine J.seq ?_
        refine J.seq ?_
        refine J.region ?_
        refine JL.go trivial (RX.movev (v := Value.func _ _ _) rfl) ?_
        refine JL.nil ?_
        refine J.block ?_
        refine J.rangeFuncB (id := 8) (fv := []) (cv := [.pointer (some ⟨bs, 0, none⟩)]) H rfl cl47 rfl ?_
        generalize hasg : (Code.region 42 _ false) = asg
        generalize hbdy : (Code.block 9 _) = bdy
        rintro r1 l a w1 hl ha H
        replace H := (((((((((H.pull 8 rfl).pull 8 rfl).pull 8 rfl).pull 8 rfl).pull 6 rfl).pull 6 rfl).pull 6 rfl).pull 8 rfl).pull 8 rfl)
        have hY : YIc Tryd.prog l (fun xs G => G = Am l r1 b29 b28 b5 b23 (loopObj2 .ready none 6 a.tmps #[165] asg bdy r1) 0 st pw cw zs sz (xs.length)) (fun xs G => G = Am l r1 b29 b28 b5 b23 (loopObj2 .done (some (.exit 8)) 6 a.tmps #[165] asg bdy r1) 0 st pw cw zs sz (xs.length) ∧ ((xs.length : Nat) : Int) = st) w0 (upTo zs) ([(b6, cel [.bool false] 4)] :: F) := by
          rintro xs _ X w x rfl ⟨j, hj, rfl⟩ H
          have hjl : j < zs.length := (List.getElem?_eq_some_iff.1 hj).1
          have htl : (zs.take j).length = j := by rw [List.length_take]; omega
          rw [htl] at H
          obtain ⟨gz, oz, rfl, _⟩ := (hoz.slAt (L := [])).some (by rw [intsV_len]; omega)
          replace H := hp_fore H
          replace H : Hp w0 w ([(l, loopObj2 .ready none 6 a.tmps #[165] asg bdy r1)] :: [(r1, Obj.deferred (some []))] :: [(b29, cel [.int .i64 ((j : Nat) : Int)] 3)] :: [(b28, cel [.int .i64 0] 3)] :: [(b5, cel [.int .i64 st] 3)] :: [(b23, cel [.slice (some ⟨gz, oz, none⟩) zs.length cw] 22)] :: sz :: (X ++ ([(b6, cel [.bool false] 4)] :: F))) := H
          refine yield_round2 H (i := 0) rfl ha ?_
          refine FC.code hasg ?_
          refine FC.region ?_
          refine FL.go (fair_round l) rfl trivial (RX.assignv (v := Value.int _ _) rfl) ?_
          refine FL.nil ?_
          intro a1 ha1
          refine ⟨_, run_beginRound (H.get1 (i := 0) rfl) rfl, ?_⟩
          replace H := H.putObj (i := 0) (o' := loopObj2 .busy none 6 a.tmps #[165] asg bdy r1) rfl
          replace H : Hp w0 _ ([(l, loopObj2 .busy none 6 a.tmps #[165] asg bdy r1)] :: [(r1, Obj.deferred (some []))] :: [(b29, cel [.int .i64 ((j : Nat) : Int)] 3)] :: [(b28, cel [.int .i64 0] 3)] :: [(b5, cel [.int .i64 st] 3)] :: [(b23, cel [.slice (some ⟨gz, oz, none⟩) zs.length cw] 22)] :: sz :: (X ++ ([(b6, cel [.bool false] 4)] :: F))) := H
          refine (?_ : FC (Fence.wide.inRound l) [] Tryd.prog 201 _ _ _ _) a1 ha1
          refine FC.code hbdy ?_
          refine FC.block ?_
          refine FC.seq ?_
          refine FC.seq ?_
          refine FC.region ?_
          refine FL.go (fair_round l) rfl trivial (RX.load H rfl (i := 2) (v := .int .i64 ((j : Nat) : Int)) rfl rfl one3) ?_
          refine FL.go (fair_round l) rfl trivial (RX.load H rfl (i := 5) (v := .slice (some ⟨gz, oz, none⟩) zs.length cw) rfl rfl one22) ?_
          refine FL.go (fair_round l) rfl trivial (RX.len_slice rfl (by rw [sl22]; rfl) rfl) ?_
          refine FL.go (fair_round l) rfl trivial (RX.ge rfl rfl) ?_
          refine FL.go (fair_round l) rfl trivial (RX.movev (v := Value.bool _) rfl) ?_
          refine FL.go (fair_round l) rfl ⟨_, rfl, (decide_eq_false (by omega))⟩ (RX.movev (v := Value.int _ _) rfl) ?_
          refine FL.go (fair_round l) rfl ⟨_, rfl, (decide_eq_false (by omega))⟩ (RX.load H rfl (i := 5) (v := .slice (some ⟨gz, oz, none⟩) zs.length cw) rfl rfl one22) ?_
          refine FL.go (fair_round l) rfl ⟨_, rfl, (decide_eq_false (by omega))⟩ (RX.load H rfl (i := 2) (v := .int .i64 ((j : Nat) : Int)) rfl rfl one3) ?_
          refine FL.go (fair_round l) rfl ⟨_, rfl, (decide_eq_false (by omega))⟩ (RX.indexAddr rfl rfl sl22 (by omega) (by omega) (o' := oz + j) (by omega)) ?_
          refine FL.go (fair_round l) rfl ⟨_, rfl, (decide_eq_false (by omega))⟩ (RX.loadS H (SlAt.cons (SlAt.cons (SlAt.cons (SlAt.cons (SlAt.cons (SlAt.cons hoz.slAt)))))) rfl (j := j) rfl (intsV_get hj) one3) ?_
          refine FL.go (fair_round l) rfl ⟨_, rfl, (decide_eq_false (by omega))⟩ (RX.ne rfl rfl) ?_
          refine FL.go (fair_round l) rfl trivial (RX.pick_f rfl (decide_eq_false (by omega))) ?_
          refine FL.nil ?_
          intro a2 ha2
          refine (?_ : FC (Fence.wide.inRound l) [] Tryd.prog 201 _ _ _ _) a2 ha2
          refine FC.cond_f (congrArg Value.bool (decide_eq_false (fun h => h rfl))) ?_
          refine FC.skip fun a3 ha3 => ?_
          refine (?_ : FC (Fence.wide.inRound l) [] Tryd.prog 201 _ _ _ _) a3 ha3
          refine FC.seq ?_
          refine FC.region ?_
          refine FL.go (fair_round l) rfl trivial (RX.load H rfl (i := 2) (v := .int .i64 ((j : Nat) : Int)) rfl rfl one3) ?_
          refine FL.go (fair_round l) rfl trivial (RX.add rfl rfl (w_i64 (r := ((j + 1 : Nat) : Int)) (by omega) (by omega) (by omega))) ?_
          refine FL.does (fair_round l) rfl trivial (EX.store (v := Value.int _ _) H rfl rfl (i := 2) rfl rfl (by simp) sz3 rfl rfl) ?_
          rintro _ w H
          refine FL.nil ?_
          intro a4 ha4
          refine (?_ : FC (Fence.wide.inRound l) [] Tryd.prog 201 _ _ _ _) a4 ha4
          refine FC.seq ?_
          refine FC.region ?_
          refine FL.go (fair_round l) rfl trivial (RX.load H rfl (i := 3) (v := .int .i64 0) rfl rfl one3) ?_
          refine FL.go (fair_round l) rfl trivial (RX.eq rfl rfl) ?_
          refine FL.go (fair_round l) rfl trivial (RX.movev (v := Value.bool _) rfl) ?_
          refine FL.go (fair_round l) rfl ⟨_, rfl, (decide_eq_true rfl)⟩ (RX.load H rfl (i := 2) (v := .int .i64 (((j + 1) : Nat) : Int)) rfl rfl one3) ?_
          refine FL.go (fair_round l) rfl ⟨_, rfl, (decide_eq_true rfl)⟩ (RX.load H rfl (i := 4) (v := .int .i64 st) rfl rfl one3) ?_
          refine FL.go (fair_round l) rfl ⟨_, rfl, (decide_eq_true rfl)⟩ (RX.eq rfl rfl) ?_
          refine FL.go (fair_round l) rfl trivial (RX.pick_t rfl (decide_eq_true rfl)) ?_
          refine FL.nil ?_
          intro a5 ha5
          refine (?_ : FC (Fence.wide.inRound l) [] Tryd.prog 201 _ _ _ _) a5 ha5
          refine FC.cond_d rfl (fun hbk => ?_) (fun hbk => ?_)
          · skip
            refine FC.exit fun a6 ha6 => ?_
            refine ⟨_, _, run_endRound (some (.exit 8)) (H.get1 (i := 0) rfl), _, rfl, false, Am l r1 b29 b28 b5 b23 (loopObj2 .done (some (.exit 8)) 6 a.tmps #[165] asg bdy r1) 0 st (some ⟨gz, oz, none⟩) cw zs sz (j + 1), rfl, fun h => (by cases h), fun _ => ⟨by rw [List.length_append, htl]; rfl, by rw [List.length_append, htl]; exact hbk⟩, ?_⟩
            replace H := H.putObj (i := 0) (o' := loopObj2 .done (some (.exit 8)) 6 a.tmps #[165] asg bdy r1) rfl
            exact hp_fore (X := [_, _, _, _, _, _, _]) (G := X) H
          · skip
            refine FC.skip fun a6 ha6 => ?_
            refine ⟨_, _, run_endRound none (H.get1 (i := 0) rfl), _, rfl, true, Am l r1 b29 b28 b5 b23 (loopObj2 .ready none 6 a.tmps #[165] asg bdy r1) 0 st (some ⟨gz, oz, none⟩) cw zs sz (j + 1), rfl, fun _ => by dsimp only; rw [List.length_append, htl]; rfl, fun h => (by cases h), ?_⟩
            replace H := H.putObj (i := 0) (o' := loopObj2 .ready none 6 a.tmps #[165] asg bdy r1) rfl
            exact hp_fore (X := [_, _, _, _, _, _, _]) (G := X) H
        rw [← hl]
        refine Ret.mono (values1c_b (A := fun xs G => G = Am l r1 b29 b28 b5 b23 (loopObj2 .ready none 6 a.tmps #[165] asg bdy r1) 0 st pw cw zs sz (xs.length)) (B := (fun xs G => G = Am l r1 b29 b28 b5 b23 (loopObj2 .done (some (.exit 8)) 6 a.tmps #[165] asg bdy r1) 0 st pw cw zs sz (xs.length) ∧ ((xs.length : Nat) : Int) = st)) (X := [[(bs, cel [.slice pz zs.length cz] 22)], sw]) (F := [(b6, cel [.bool false] 4)] :: F) (G := Am l r1 b29 b28 b5 b23 (loopObj2 .ready none 6 a.tmps #[165] asg bdy r1) 0 st pw cw zs sz (0)) hY (SlAt.here rfl) ((how.slAt (L := [])).cons) (by omega) rfl H) ?_
        rintro v w3 hcase
        obtain ⟨k, sta, pd, hpd, hst, hk, H⟩ : ∃ (k : Nat) (sta : LoopState) (pd : Option Code), (pd = none ∨ pd = some (.exit 8)) ∧ sta ≠ .busy ∧ (k = zs.length ∨ ((k : Nat) : Int) = st) ∧ Hp w0 w3 ([(bs, cel [.slice pz zs.length cz] 22)] :: sw :: [(l, loopObj2 sta pd 6 a.tmps #[165] asg bdy r1)] :: [(r1, Obj.deferred (some []))] :: [(b29, cel [.int .i64 ((k : Nat) : Int)] 3)] :: [(b28, cel [.int .i64 0] 3)] :: [(b5, cel [.int .i64 st] 3)] :: [(b23, cel [.slice pw zs.length cw] 22)] :: sz :: [(b6, cel [.bool false] 4)] :: F) := by
          rcases hcase with ⟨G', rfl, H⟩ | ⟨i2, G', hi2, ⟨rfl, hst⟩, H⟩
          · exact ⟨zs.length, .ready, none, .inl rfl, by decide, .inl rfl, H⟩
          · exact ⟨_, .done, some (.exit 8), .inr rfl, by decide, .inr hst, H⟩
        refine ⟨2, _, sta, pd, hpd, hst, H, rfl, fun w H => ?_⟩
        replace H : Hp w0 w ([(bs, cel [.slice pz zs.length cz] 22)] :: sw :: [(l, loopObj2 .exhausted pd 6 a.tmps #[165] asg bdy r1)] :: [(r1, Obj.deferred (some []))] :: [(b29, cel [.int .i64 ((k : Nat) : Int)] 3)] :: [(b28, cel [.int .i64 0] 3)] :: [(b5, cel [.int .i64 st] 3)] :: [(b23, cel [.slice pw zs.length cw] 22)] :: sz :: [(b6, cel [.bool false] 4)] :: F) := H
        refine J.seq ?_
        refine J.join (ι := Bool) (fun q => [(199, .bool q)]) (fun q w => q = false ∧ Hp w0 w ([(bs, cel [.slice pz zs.length cz] 22)] :: sw :: [(l, loopObj2 .exhausted pd 6 a.tmps #[165] asg bdy r1)] :: [(r1, Obj.deferred (some []))] :: [(b29, cel [.int .i64 ((k : Nat) : Int)] 3)] :: [(b28, cel [.int .i64 0] 3)] :: [(b5, cel [.int .i64 st] 3)] :: [(b23, cel [.slice pw zs.length cw] 22)] :: sz :: [(b6, cel [.bool false] 4)] :: F)) [(5, _), (6, _), (23, _), (25, _), (28, _), (30, _), (165, _), (166, _), (167, _), (168, _), (169, _), (170, _), (171, _), (172, _), (173, _), (174, _), (175, _), (176, _), (177, _), (178, _), (179, _), (180, _), (181, _), (182, _), (183, _), (184, _), (185, _), (186, _)] ⟨rfl, rfl, rfl, rfl, rfl, rfl, rfl, rfl, rfl, rfl, rfl, rfl, rfl, rfl, rfl, rfl, rfl, rfl, rfl, rfl, rfl, rfl, rfl, rfl, rfl, rfl, rfl, rfl, trivial⟩ ?_ ?_
        rotate_left
        · skip
          intro k2 hk2
          refine J.region ?_
          refine JL.go trivial (RX.load H rfl (i := 4) (v := .int .i64 ((k : Nat) : Int)) rfl rfl one3) ?_
          refine JL.go trivial (RX.load H rfl (i := 7) (v := .slice pw zs.length cw) rfl rfl one22) ?_
          refine JL.go trivial (RX.len_slice rfl (by rw [sl22]; rfl) rfl) ?_
          refine JL.go trivial (RX.ne rfl rfl) ?_
          refine JL.go trivial (RX.movev (v := Value.bool _) rfl) ?_
          refine JL.splitS 191 rfl (fun hg => ?_) (fun hg => ?_)
          · skip
            first | have hgp := of_decide_eq_true hg | skip
            have hg2 := of_decide_eq_true hg
            refine JL.go ⟨_, rfl, hg⟩ (RX.load H rfl (i := 5) (v := .int .i64 0) rfl rfl one3) ?_
            refine JL.go ⟨_, rfl, hg⟩ (RX.eq rfl rfl) ?_
            refine JL.go ⟨_, rfl, hg⟩ (RX.movev (v := Value.bool _) rfl) ?_
            refine JL.go ⟨_, rfl, (decide_eq_false (by decide))⟩ (RX.load H rfl (i := 4) (v := .int .i64 ((k : Nat) : Int)) rfl rfl one3) ?_
            refine JL.go ⟨_, rfl, (decide_eq_false (by decide))⟩ (RX.load H rfl (i := 6) (v := .int .i64 st) rfl rfl one3) ?_
            refine JL.go ⟨_, rfl, (decide_eq_false (by decide))⟩ (RX.ne rfl rfl) ?_
            refine JL.go ⟨_, rfl, hg⟩ (RX.pick_f rfl (decide_eq_false (by decide))) ?_
            refine JL.go trivial (RX.pick_t rfl hg) ?_
            refine JL.nil ?_
            first
            | exact hk2 false _ _ ⟨rfl, rfl, rfl, rfl, rfl, rfl, rfl, rfl, rfl, rfl, rfl, rfl, rfl, rfl, rfl, rfl, rfl, rfl, rfl, rfl, rfl, rfl, rfl, rfl, rfl, rfl, rfl, rfl, trivial⟩ ⟨rfl, trivial⟩ ⟨rfl, H⟩
            | exact hk2 _ _ _ ⟨rfl, rfl, rfl, rfl, rfl, rfl, rfl, rfl, rfl, rfl, rfl, rfl, rfl, rfl, rfl, rfl, rfl, rfl, rfl, rfl, rfl, rfl, rfl, rfl, rfl, rfl, rfl, rfl, trivial⟩ ⟨rfl, trivial⟩ ⟨decide_eq_false (fun h => h (hk.resolve_left (fun h2 => by omega))), H⟩
          · skip
            first | have hgp := of_decide_eq_false hg | skip
            refine JL.no ⟨_, rfl, gno hg⟩ ?_
            refine JL.no ⟨_, rfl, gno hg⟩ ?_
            refine JL.no ⟨_, rfl, gno hg⟩ ?_
            refine JL.no ⟨_, rfl, nofun⟩ ?_
            refine JL.no ⟨_, rfl, nofun⟩ ?_
            refine JL.no ⟨_, rfl, nofun⟩ ?_
            refine JL.no ⟨_, rfl, gno hg⟩ ?_
            refine JL.go trivial (RX.pick_f rfl hg) ?_
            refine JL.nil ?_
            first
            | exact hk2 false _ _ ⟨rfl, rfl, rfl, rfl, rfl, rfl, rfl, rfl, rfl, rfl, rfl, rfl, rfl, rfl, rfl, rfl, rfl, rfl, rfl, rfl, rfl, rfl, rfl, rfl, rfl, rfl, rfl, rfl, trivial⟩ ⟨rfl, trivial⟩ ⟨rfl, H⟩
            | exact hk2 _ _ _ ⟨rfl, rfl, rfl, rfl, rfl, rfl, rfl, rfl, rfl, rfl, rfl, rfl, rfl, rfl, rfl, rfl, rfl, rfl, rfl, rfl, rfl, rfl, rfl, rfl, rfl, rfl, rfl, rfl, trivial⟩ ⟨rfl, trivial⟩ ⟨decide_eq_false (fun h => h (hk.resolve_left (fun h2 => by omega))), H⟩
        · skip
          clear H
          rintro q ρ w ⟨rfl, H⟩
          refine J.cond_f rfl rfl ?_
          refine J.skip ?_
          refine J.inBlock ?_
          refine J.seq ?_
          refine J.seq ?_
          refine J.region ?_
          refine JL.go trivial (RX.load H rfl (i := 5) (v := .int .i64 0) rfl rfl one3) ?_
          refine JL.nil ?_
          refine J.region ?_
          refine JL.does trivial (EX.alloc H zr3 rfl) ?_
          rintro _ w ⟨b30, rfl, H⟩
          refine JL.does trivial (EX.store (v := Value.int _ _) H rfl rfl (i := 0) (l' := [.int .i64 0]) rfl rfl (by simp) sz3 rfl rfl) ?_
          rintro _ w H
          refine JL.nil ?_
          refine J.region ?_
          refine JL.go trivial (RX.load H rfl (i := 0) (v := .int .i64 0) rfl rfl one3) ?_
          refine JL.go trivial (RX.add rfl rfl (w_i64 (r := 1) (by omega) (by omega) (by omega))) ?_
          refine JL.does trivial (EX.store (v := Value.int _ _) H rfl rfl (i := 0) (l' := [.int .i64 1]) rfl rfl (by simp) sz3 rfl rfl) ?_
          rintro _ w H
          refine JL.nil ?_
          replace H := ((((((((((((H.pull 4 rfl).pull 10 rfl).pull 10 rfl).pull 10 rfl).pull 10 rfl).pull 5 rfl).pull 7 rfl).pull 7 rfl).pull 10 rfl).pull 10 rfl).pull 10 rfl)).drop.drop.drop
          replace H : Hp w0 w ([(bs, cel [.slice pz zs.length cz] 22)] :: sw :: [(b30, cel [.int .i64 1] 3)] :: [(b5, cel [.int .i64 st] 3)] :: [(b23, cel [.slice pw zs.length cw] 22)] :: sz :: [(b6, cel [.bool false] 4)] :: [(r1, Obj.deferred (some []))] :: F) := H
          refine J.again ?_
          refine J.seq ?_
          refine J.seq ?_
          refine J.region ?_
          refine JL.go trivial (RX.load H rfl (i := 2) (v := .int .i64 1) rfl rfl one3) ?_
          refine JL.go trivial (RX.lt rfl rfl) ?_
          refine JL.nil ?_
          refine J.cond_t rfl (decide_eq_true (by decide)) ?_
          refine J.skip ?_
          refine J.seq ?_
          refine J.block ?_
          refine J.seq ?_
          refine J.region ?_
          refine JL.does trivial (EX.alloc H zr3 rfl) ?_
          rintro _ w ⟨b29, rfl, H⟩
          refine JL.does trivial (EX.store (v := Value.int _ _) H rfl rfl (i := 0) (l' := [.int .i64 0]) rfl rfl (by simp) sz3 rfl rfl) ?_
          rintro _ w H
          refine JL.nil ?_
          refine J.seq ?_
          refine J.seq ?_
          refine J.region ?_
          refine JL.go trivial (RX.movev (v := Value.func _ _ _) rfl) ?_
          refine JL.nil ?_
          refine J.block ?_
          refine J.rangeFuncB (id := 8) (fv := []) (cv := [.pointer (some ⟨bs, 0, none⟩)]) H rfl cl47 rfl ?_
          rintro r l a w1 hl ha H
          replace H := (((((((((H.pull 8 rfl).pull 8 rfl).pull 8 rfl).pull 8 rfl).pull 6 rfl).pull 6 rfl).pull 6 rfl).pull 8 rfl).pull 8 rfl)
          have hY : YIc Tryd.prog l (fun xs G => G = Am l r b29 b30 b5 b23 (loopObj2 .ready none 6 a.tmps #[165] asg bdy r) 1 st pw cw zs sz (xs.length)) never w0 (upTo zs) ([(b6, cel [.bool false] 4)] :: [(r1, Obj.deferred (some []))] :: F) := by
            rintro xs _ X w x rfl ⟨j, hj, rfl⟩ H
            have hjl : j < zs.length := (List.getElem?_eq_some_iff.1 hj).1
            have htl : (zs.take j).length = j := by rw [List.length_take]; omega
            rw [htl] at H
            obtain ⟨gz, oz, rfl, _⟩ := (hoz.slAt (L := [])).some (by rw [intsV_len]; omega)
            replace H := hp_fore H
            replace H : Hp w0 w ([(l, loopObj2 .ready none 6 a.tmps #[165] asg bdy r)] :: [(r, Obj.deferred (some []))] :: [(b29, cel [.int .i64 ((j : Nat) : Int)] 3)] :: [(b30, cel [.int .i64 1] 3)] :: [(b5, cel [.int .i64 st] 3)] :: [(b23, cel [.slice (some ⟨gz, oz, none⟩) zs.length cw] 22)] :: sz :: (X ++ ([(b6, cel [.bool false] 4)] :: [(r1, Obj.deferred (some []))] :: F))) := H
            refine yield_round2 H (i := 0) rfl ha ?_
            refine FC.code hasg ?_
            refine FC.region ?_
            refine FL.go (fair_round l) rfl trivial (RX.assignv (v := Value.int _ _) rfl) ?_
            refine FL.nil ?_
            intro a1 ha1
            refine ⟨_, run_beginRound (H.get1 (i := 0) rfl) rfl, ?_⟩
            replace H := H.putObj (i := 0) (o' := loopObj2 .busy none 6 a.tmps #[165] asg bdy r) rfl
            replace H : Hp w0 _ ([(l, loopObj2 .busy none 6 a.tmps #[165] asg bdy r)] :: [(r, Obj.deferred (some []))] :: [(b29, cel [.int .i64 ((j : Nat) : Int)] 3)] :: [(b30, cel [.int .i64 1] 3)] :: [(b5, cel [.int .i64 st] 3)] :: [(b23, cel [.slice (some ⟨gz, oz, none⟩) zs.length cw] 22)] :: sz :: (X ++ ([(b6, cel [.bool false] 4)] :: [(r1, Obj.deferred (some []))] :: F))) := H
            refine (?_ : FC (Fence.wide.inRound l) [] Tryd.prog 201 _ _ _ _) a1 ha1
            refine FC.code hbdy ?_
            refine FC.block ?_
            refine FC.seq ?_
            refine FC.seq ?_
            refine FC.region ?_
            refine FL.go (fair_round l) rfl trivial (RX.load H rfl (i := 2) (v := .int .i64 ((j : Nat) : Int)) rfl rfl one3) ?_
            refine FL.go (fair_round l) rfl trivial (RX.load H rfl (i := 5) (v := .slice (some ⟨gz, oz, none⟩) zs.length cw) rfl rfl one22) ?_
            refine FL.go (fair_round l) rfl trivial (RX.len_slice rfl (by rw [sl22]; rfl) rfl) ?_
            refine FL.go (fair_round l) rfl trivial (RX.ge rfl rfl) ?_
            refine FL.go (fair_round l) rfl trivial (RX.movev (v := Value.bool _) rfl) ?_
            refine FL.go (fair_round l) rfl ⟨_, rfl, (decide_eq_false (by omega))⟩ (RX.movev (v := Value.int _ _) rfl) ?_
            refine FL.go (fair_round l) rfl ⟨_, rfl, (decide_eq_false (by omega))⟩ (RX.load H rfl (i := 5) (v := .slice (some ⟨gz, oz, none⟩) zs.length cw) rfl rfl one22) ?_
            refine FL.go (fair_round l) rfl ⟨_, rfl, (decide_eq_false (by omega))⟩ (RX.load H rfl (i := 2) (v := .int .i64 ((j : Nat) : Int)) rfl rfl one3) ?_
            refine FL.go (fair_round l) rfl ⟨_, rfl, (decide_eq_false (by omega))⟩ (RX.indexAddr rfl rfl sl22 (by omega) (by omega) (o' := oz + j) (by omega)) ?_
            refine FL.go (fair_round l) rfl ⟨_, rfl, (decide_eq_false (by omega))⟩ (RX.loadS H (SlAt.cons (SlAt.cons (SlAt.cons (SlAt.cons (SlAt.cons (SlAt.cons hoz.slAt)))))) rfl (j := j) rfl (intsV_get hj) one3) ?_
            refine FL.go (fair_round l) rfl ⟨_, rfl, (decide_eq_false (by omega))⟩ (RX.ne rfl rfl) ?_
            refine FL.go (fair_round l) rfl trivial (RX.pick_f rfl (decide_eq_false (by omega))) ?_
            refine FL.nil ?_
            intro a2 ha2
            refine (?_ : FC (Fence.wide.inRound l) [] Tryd.prog 201 _ _ _ _) a2 ha2
            refine FC.cond_f (congrArg Value.bool (decide_eq_false (fun h => h rfl))) ?_
            refine FC.skip fun a3 ha3 => ?_
            refine (?_ : FC (Fence.wide.inRound l) [] Tryd.prog 201 _ _ _ _) a3 ha3
            refine FC.seq ?_
            refine FC.region ?_
            refine FL.go (fair_round l) rfl trivial (RX.load H rfl (i := 2) (v := .int .i64 ((j : Nat) : Int)) rfl rfl one3) ?_
            refine FL.go (fair_round l) rfl trivial (RX.add rfl rfl (w_i64 (r := ((j + 1 : Nat) : Int)) (by omega) (by omega) (by omega))) ?_
            refine FL.does (fair_round l) rfl trivial (EX.store (v := Value.int _ _) H rfl rfl (i := 2) rfl rfl (by simp) sz3 rfl rfl) ?_
            rintro _ w H
            refine FL.nil ?_
            intro a4 ha4
            refine (?_ : FC (Fence.wide.inRound l) [] Tryd.prog 201 _ _ _ _) a4 ha4
            refine FC.seq ?_
            refine FC.region ?_
            refine FL.go (fair_round l) rfl trivial (RX.load H rfl (i := 3) (v := .int .i64 1) rfl rfl one3) ?_
            refine FL.go (fair_round l) rfl trivial (RX.eq rfl rfl) ?_
            refine FL.go (fair_round l) rfl trivial (RX.movev (v := Value.bool _) rfl) ?_
            refine FL.no (fair_round l) ⟨_, rfl, gno (decide_eq_false (by decide))⟩ ?_
            refine FL.no (fair_round l) ⟨_, rfl, gno (decide_eq_false (by decide))⟩ ?_
            refine FL.no (fair_round l) ⟨_, rfl, gno (decide_eq_false (by decide))⟩ ?_
            refine FL.go (fair_round l) rfl trivial (RX.pick_f rfl (decide_eq_false (by decide))) ?_
            refine FL.nil ?_
            intro a5 ha5
            refine (?_ : FC (Fence.wide.inRound l) [] Tryd.prog 201 _ _ _ _) a5 ha5
            refine FC.cond_f rfl ?_
            refine FC.skip fun a6 ha6 => ?_
            refine ⟨_, _, run_endRound none (H.get1 (i := 0) rfl), _, rfl, true, Am l r b29 b30 b5 b23 (loopObj2 .ready none 6 a.tmps #[165] asg bdy r) 1 st (some ⟨gz, oz, none⟩) cw zs sz (j + 1), rfl, fun _ => by dsimp only; rw [List.length_append, htl]; rfl, fun h => (by cases h), ?_⟩
            replace H := H.putObj (i := 0) (o' := loopObj2 .ready none 6 a.tmps #[165] asg bdy r) rfl
            exact hp_fore (X := [_, _, _, _, _, _, _]) (G := X) H
          rw [← hl]
          refine Ret.mono (values1c_b (A := fun xs G => G = Am l r b29 b30 b5 b23 (loopObj2 .ready none 6 a.tmps #[165] asg bdy r) 1 st pw cw zs sz (xs.length)) (B := never) (X := [[(bs, cel [.slice pz zs.length cz] 22)], sw]) (F := [(b6, cel [.bool false] 4)] :: [(r1, Obj.deferred (some []))] :: F) (G := Am l r b29 b30 b5 b23 (loopObj2 .ready none 6 a.tmps #[165] asg bdy r) 1 st pw cw zs sz (0)) hY (SlAt.here rfl) ((how.slAt (L := [])).cons) (by omega) rfl H) ?_
          rintro v w3 hcase
          obtain ⟨k, sta, pd, hpd, hst, hk, H⟩ : ∃ (k : Nat) (sta : LoopState) (pd : Option Code), (pd = none ∨ pd = some (.exit 8)) ∧ sta ≠ .busy ∧ k = zs.length ∧ Hp w0 w3 ([(bs, cel [.slice pz zs.length cz] 22)] :: sw :: [(l, loopObj2 sta pd 6 a.tmps #[165] asg bdy r)] :: [(r, Obj.deferred (some []))] :: [(b29, cel [.int .i64 ((k : Nat) : Int)] 3)] :: [(b30, cel [.int .i64 1] 3)] :: [(b5, cel [.int .i64 st] 3)] :: [(b23, cel [.slice pw zs.length cw] 22)] :: sz :: [(b6, cel [.bool false] 4)] :: [(r1, Obj.deferred (some []))] :: F) := by
            obtain ⟨G', rfl, H⟩ := hcase.resolve_right (fun ⟨_, _, _, h, _⟩ => h)
            exact ⟨zs.length, .ready, none, .inl rfl, by decide, rfl, H⟩
          refine ⟨2, _, sta, pd, hpd, hst, H, rfl, fun w H => ?_⟩
          replace H : Hp w0 w ([(bs, cel [.slice pz zs.length cz] 22)] :: sw :: [(l, loopObj2 .exhausted pd 6 a.tmps #[165] asg bdy r)] :: [(r, Obj.deferred (some []))] :: [(b29, cel [.int .i64 ((k : Nat) : Int)] 3)] :: [(b30, cel [.int .i64 1] 3)] :: [(b5, cel [.int .i64 st] 3)] :: [(b23, cel [.slice pw zs.length cw] 22)] :: sz :: [(b6, cel [.bool false] 4)] :: [(r1, Obj.deferred (some []))] :: F) := H
          refine J.seq ?_
          refine J.join (ι := Bool) (fun q => [(199, .bool q)]) (fun q w => q = false ∧ Hp w0 w ([(bs, cel [.slice pz zs.length cz] 22)] :: sw :: [(l, loopObj2 .exhausted pd 6 a.tmps #[165] asg bdy r)] :: [(r, Obj.deferred (some []))] :: [(b29, cel [.int .i64 ((k : Nat) : Int)] 3)] :: [(b30, cel [.int .i64 1] 3)] :: [(b5, cel [.int .i64 st] 3)] :: [(b23, cel [.slice pw zs.length cw] 22)] :: sz :: [(b6, cel [.bool false] 4)] :: [(r1, Obj.deferred (some []))] :: F)) [(5, _), (6, _), (23, _), (25, _), (28, _), (30, _), (165, _), (166, _), (167, _), (168, _), (169, _), (170, _), (171, _), (172, _), (173, _), (174, _), (175, _), (176, _), (177, _), (178, _), (179, _), (180, _), (181, _), (182, _), (183, _), (184, _), (185, _), (186, _)] ⟨rfl, rfl, rfl, rfl, rfl, rfl, rfl, rfl, rfl, rfl, rfl, rfl, rfl, rfl, rfl, rfl, rfl, rfl, rfl, rfl, rfl, rfl, rfl, rfl, rfl, rfl, rfl, rfl, trivial⟩ ?_ ?_
          rotate_left
          · skip
            intro k2 hk2
            refine J.region ?_
            refine JL.go trivial (RX.load H rfl (i := 4) (v := .int .i64 ((k : Nat) : Int)) rfl rfl one3) ?_
            refine JL.go trivial (RX.load H rfl (i := 7) (v := .slice pw zs.length cw) rfl rfl one22) ?_
            refine JL.go trivial (RX.len_slice rfl (by rw [sl22]; rfl) rfl) ?_
            refine JL.go trivial (RX.ne rfl rfl) ?_
            refine JL.go trivial (RX.movev (v := Value.bool _) rfl) ?_
            refine JL.splitS 191 rfl (fun hg => ?_) (fun hg => ?_)
            · skip
              first | have hgp := of_decide_eq_true hg | skip
              exfalso
              exact of_decide_eq_true hg (by rw [hk])
            · skip
              first | have hgp := of_decide_eq_false hg | skip
              refine JL.no ⟨_, rfl, gno hg⟩ ?_
              refine JL.no ⟨_, rfl, gno hg⟩ ?_
              refine JL.no ⟨_, rfl, gno hg⟩ ?_
              refine JL.no ⟨_, rfl, nofun⟩ ?_
              refine JL.no ⟨_, rfl, nofun⟩ ?_
              refine JL.no ⟨_, rfl, nofun⟩ ?_
              refine JL.no ⟨_, rfl, gno hg⟩ ?_
              refine JL.go trivial (RX.pick_f rfl hg) ?_
              refine JL.nil ?_
              first
              | exact hk2 false _ _ ⟨rfl, rfl, rfl, rfl, rfl, rfl, rfl, rfl, rfl, rfl, rfl, rfl, rfl, rfl, rfl, rfl, rfl, rfl, rfl, rfl, rfl, rfl, rfl, rfl, rfl, rfl, rfl, rfl, trivial⟩ ⟨rfl, trivial⟩ ⟨rfl, H⟩
              | exact hk2 _ _ _ ⟨rfl, rfl, rfl, rfl, rfl, rfl, rfl, rfl, rfl, rfl, rfl, rfl, rfl, rfl, rfl, rfl, rfl, rfl, rfl, rfl, rfl, rfl, rfl, rfl, rfl, rfl, rfl, rfl, trivial⟩ ⟨rfl, trivial⟩ ⟨decide_eq_false (fun h => h (hk.resolve_left (fun h2 => by omega))), H⟩
          · skip
            clear H
            rintro q ρ w ⟨rfl, H⟩
            refine J.cond_f rfl rfl ?_
            refine J.skip ?_
            refine J.inBlock ?_
            refine J.seq ?_
            refine J.seq ?_
            refine J.region ?_
            refine JL.go trivial (RX.load H rfl (i := 5) (v := .int .i64 1) rfl rfl one3) ?_
            refine JL.nil ?_
            refine J.region ?_
            refine JL.does trivial (EX.alloc H zr3 rfl) ?_
            rintro _ w ⟨b31, rfl, H⟩
            refine JL.does trivial (EX.store (v := Value.int _ _) H rfl rfl (i := 0) (l' := [.int .i64 1]) rfl rfl (by simp) sz3 rfl rfl) ?_
            rintro _ w H
            refine JL.nil ?_
            refine J.region ?_
            refine JL.go trivial (RX.load H rfl (i := 0) (v := .int .i64 1) rfl rfl one3) ?_
            refine JL.go trivial (RX.add rfl rfl (w_i64 (r := 2) (by omega) (by omega) (by omega))) ?_
            refine JL.does trivial (EX.store (v := Value.int _ _) H rfl rfl (i := 0) (l' := [.int .i64 2]) rfl rfl (by simp) sz3 rfl rfl) ?_
            rintro _ w H
            refine JL.nil ?_
            replace H := (((((((((((((H.pull 11 rfl).pull 5 rfl).pull 11 rfl).pull 11 rfl).pull 11 rfl).pull 11 rfl).pull 6 rfl).pull 8 rfl).pull 8 rfl).pull 11 rfl).pull 11 rfl).pull 11 rfl)).drop.drop.drop
            replace H : Hp w0 w ([(bs, cel [.slice pz zs.length cz] 22)] :: sw :: [(b31, cel [.int .i64 2] 3)] :: [(b5, cel [.int .i64 st] 3)] :: [(b23, cel [.slice pw zs.length cw] 22)] :: sz :: [(b6, cel [.bool false] 4)] :: [(r, Obj.deferred (some []))] :: [(r1, Obj.deferred (some []))] :: F) := H
            refine J.again ?_
            refine J.seq ?_
            refine J.seq ?_
            refine J.region ?_
            refine JL.go trivial (RX.load H rfl (i := 2) (v := .int .i64 2) rfl rfl one3) ?_
            refine JL.go trivial (RX.lt rfl rfl) ?_
            refine JL.nil ?_
            refine J.cond_f rfl (decide_eq_false (by decide)) ?_
            refine J.exit rfl ?_
            refine J.seq ?_
            refine J.region ?_
            refine JL.does trivial (EX.store (v := Value.bool _) H rfl rfl (i := 6) (l' := [.bool true]) rfl rfl (by simp) sz4 rfl rfl) ?_
            rintro _ w H
            refine JL.nil ?_
            refine J.ret_mark2 Tryd.func6 H (i := 7) (i2 := 8) rfl rfl ?_
            intro w2 a2 ha2 H
            refine ⟨_, results_c ha2 rfl rfl H (i := 6) rfl one4, ?_⟩
            exact ⟨_, rfl, rfl, H.drop.drop.drop.drop.drop.drop.drop.drop.drop⟩
end Go.Proofs.YtmppcnbkfjeabaaDoor
