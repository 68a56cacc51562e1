/- Part 23 of the proof that WholeSmall holds: what the functions on its way do, step by step. -/
import Derived.Test.YtfaokllgaambjaaGreatDoorZ1
import Derived.Test.YtfaokllgaambjaaGreatDoorZ2
import Derived.Test.YtfaokllgaambjaaGreatDoorZ3
import Derived.Test.YtfaokllgaambjaaGreatDoorZ4
import Derived.Test.YtfaokllgaambjaaGreatDoorZ5
import Derived.Test.YtfaokllgaambjaaGreatDoorZ7
import Derived.Test.YtfaokllgaambjaaGreatDoorZ8
import Derived.Test.YtfaokllgaambjaaGreatDoorZ9
import Derived.Test.YtfaokllgaambjaaGreatDoorZ11
import Derived.Test.YtfaokllgaambjaaGreatDoorZ14
import Derived.Test.YtfaokllgaambjaaGreatDoorZ15
import Derived.Test.YtfaokllgaambjaaGreatDoorZ16
import Derived.Test.YtfaokllgaambjaaGreatDoorZ17
import Derived.Test.YtfaokllgaambjaaGreatDoorZ19
import Derived.Test.YtfaokllgaambjaaGreatDoorZ21
import Derived.Test.YtfaokllgaambjaaGreatDoorZ22
set_option linter.unusedVariables false
set_option linter.unusedSimpArgs false
namespace Go.Proofs.YtfaokllgaambjaaGreatDoor
open Go Go.Eng
set_option maxRecDepth 100000
set_option maxHeartbeats 1600000
theorem cl24 : callable Tryz.prog 24 = true := by kernel_rfl
theorem cl46 : callable Tryz.prog 46 = true := by kernel_rfl
theorem cl47 : callable Tryz.prog 47 = true := by kernel_rfl
theorem cl48 : callable Tryz.prog 48 = true := by kernel_rfl
theorem cl50 : callable Tryz.prog 50 = true := by kernel_rfl
theorem cl77 : callable Tryz.prog 77 = true := by kernel_rfl
theorem one66 : oneOf Tryz.prog 66 = true := by kernel_rfl
namespace Oo
theorem each1_fn {w0 : World} {F : List Seg} {fn : FuncId} {cv : List Value} {A : Nat → List Seg → Prop} {N b5 b11 : Nat} {f : Bool} (hY : YFn fn cv A w0 N 4 F) : YFn 48 [.pointer (some ⟨b5, 0, none⟩), .pointer (some ⟨b11, 0, none⟩)] A w0 N 2 ([(b5, cel [.func (.func fn) #[] cv.toArray] 40)] :: [(b11, cel (tv (kf f) 2 none 0 0) 39)] :: F) :=
  ⟨cl48, fun j G X W o vs s hA hj _ h2 hO H => by
    obtain ⟨f2, rfl⟩ := od_two h2
    exact each1_b hY hA hj hO H⟩
theorem slApL {X Y : List Seg} {p : Option Addr} {xs : List Value} (h : SlAt Y p xs) : SlAt (X ++ Y) p xs := h.perm fun e he => by
  rw [List.flatten_append]; exact List.mem_append_right _ he
theorem divL_get {n i : Nat} {x : Int} (hn : n = 1 ∨ n = 2 ∨ n = 4) (h : (divL n)[i]? = some x) : x = 1 ∨ x = ((n : Nat) : Int) ∨ (x = 2 ∧ n = 4 ∧ i = 1) := by
 rcases hn with rfl | rfl | rfl
 · match i, h with
   | 0, h => cases h; exact .inl rfl
 · match i, h with
   | 0, h => cases h; exact .inl rfl
   | 1, h => cases h; exact .inr (.inl rfl)
 · match i, h with
   | 0, h => cases h; exact .inl rfl
   | 1, h => cases h; exact .inr (.inr ⟨rfl, rfl, rfl⟩)
   | 2, h => cases h; exact .inr (.inl rfl)
theorem divs_b {w0 w : World} {X F G0 : List Seg} {l nb n : Nat} {A : Nat → List Seg → Prop} (hn : n = 1 ∨ n = 2 ∨ n = 4) (hY : YD l A w0 (divL n) F) (hb : SlAt X (some ⟨nb, 0, none⟩) [.int .i64 ((n : Nat) : Int)]) (hA0 : A 0 G0) (H : Hp w0 w (X ++ (G0 ++ F))) :
 Ret Tryz.prog 77 [.func (.yield l) #[] #[], .pointer (some ⟨nb, 0, none⟩)] w fun _ w' => ∃ G' k, A k G' ∧ Hp w0 w' (X ++ (G' ++ F)) := by
 rcases hn with rfl | rfl | rfl
 · exact (divs1_b hY hb hA0 H).mono fun _ _ ⟨G, h1, h2⟩ => ⟨G, _, h1, h2⟩
 · exact (divs2_b hY hb hA0 H).mono fun _ _ ⟨G, h1, h2⟩ => ⟨G, _, h1, h2⟩
 · exact (divs4_b hY hb hA0 H).mono fun _ _ ⟨G, h1, h2⟩ => ⟨G, _, h1, h2⟩
def cnt (n : Nat) : Nat := if n = 4 then 6 else 2
def told (n j i : Nat) : Nat := if 2 ≤ i ∧ n = 4 then j + 6 else j + 2
def AE (l r : Nat) (o : Obj) (A : Nat → List Seg → Prop) (n j : Nat) (i : Nat) (G : List Seg) : Prop := ∃ j2 G2, G = [(l, o)] :: [(r, Obj.deferred (some []))] :: G2 ∧ j2 ≤ told n j i ∧ A j2 G2
theorem told_mono (n j i : Nat) : told n j i ≤ told n j (i + 1) := by
 unfold told
 split <;> split <;> omega
theorem told_le (n j i : Nat) : told n j i ≤ j + cnt n := by
 unfold told cnt
 split <;> split <;> omega
def EachC (n : Nat) : Prop := ∀ (w0 w : World) (X G F : List Seg) (fn : FuncId) (cv : List Value) (A : Nat → List Seg → Prop) (N j : Nat) (d pr : Int) (m : Value) (fl : List Int) (p : Option Addr) (c cb : Nat), YFn fn cv A w0 N n F → A j G → j + cnt n ≤ N → SlAt X (some ⟨cb, 0, none⟩) (chV d p fl.length c pr m) → SlAt X p (i64sV fl) → fl.length ≤ 1099511627776 → PolOk d fl pr → Hp w0 w (X ++ (G ++ F)) →
  Ret Tryz.prog 24 [.pointer (some ⟨cb, 0, none⟩), .int .i64 ((n : Nat) : Int), .func (.func fn) #[] cv.toArray] w fun v w' => v = .bool true ∧ ∃ j' G', j' ≤ j + cnt n ∧ A j' G' ∧ Hp w0 w' (X ++ (G' ++ F))
theorem results_c1 {w0 w : World} {L : List Seg} {n : Nat} {D : List Deferred} {σ : Env} {fn : Func} {a t b i T : Nat} {x : Value} {ac : Act} (ha : Ag D n σ ac) (h : fn.results = #[.cell a t]) (hp : Eng.ev n σ (.tmp a) = .pointer (some ⟨b, 0, none⟩)) (H : Hp w0 w L) (hi : L[i]? = some [(b, cel [x] T)]) (ht : oneOf Tryz.prog t = true) : (results fn ac.tmps).run Tryz.prog w = .ok x w := by
 have h1 := ha.tmp a
 rw [hp, Array.getD_eq_getD_getElem?] at h1
 have e1 := run_loadOne (P := Tryz.prog) H hi ht
 simp [results, h, h1, asAddr, e1]
theorem each_step {n : Nat} (hn : n = 1 ∨ n = 2 ∨ n = 4) (ih : n = 4 → EachC 2) {w0 w : World} {X G F : List Seg} {fn : FuncId} {cv : List Value} {A : Nat → List Seg → Prop} {N j : Nat} {d pr : Int} {m : Value} {fl : List Int} {p : Option Addr} {c cb : Nat} (hY : YFn fn cv A w0 N n F) (hA : A j G) (hjN : j + cnt n ≤ N) (hc : SlAt X (some ⟨cb, 0, none⟩) (chV d p fl.length c pr m)) (hs : SlAt X p (i64sV fl)) (hl : fl.length ≤ 1099511627776) (hpo : PolOk d fl pr) (H : Hp w0 w (X ++ (G ++ F))) : Ret Tryz.prog 24 [.pointer (some ⟨cb, 0, none⟩), .int .i64 ((n : Nat) : Int), .func (.func fn) #[] cv.toArray] w fun v w' => v = .bool true ∧ ∃ j' G', j' ≤ j + cnt n ∧ A j' G' ∧ Hp w0 w' (X ++ (G' ++ F)) := by
 refine Calls.of_J (n := 74) Tryz.func24 rfl rfl rfl (J.seq ?_)
 skip
 refine J.region (JL.e (EX.box (v := .pointer _) H rfl rfl) ?_)
 rintro _ w ⟨b3, rfl, H⟩
 refine JL.e (EX.box (v := .int _ _) H rfl rfl) ?_
 rintro _ w ⟨b4, rfl, H⟩
 refine JL.e (EX.box (v := .func _ _ _) H rfl rfl) ?_
 rintro _ w ⟨b5, rfl, H⟩
 refine JL.e (EX.alloc H zr4 rfl) ?_
 rintro _ w ⟨b6, rfl, H⟩
 refine JL.nil (J.seq (J.seq (J.region (JL.g (RX.load H rfl (i := 3) (v := .pointer _) rfl rfl one66) (JL.g (RX.load H rfl (i := 2) (v := .int _ _) rfl rfl one3) (JL.e (EX.call rfl cl46 rfl ((heads_b H (slAp hc).cons.cons.cons.cons (slAp hs).cons.cons.cons.cons hl hpo.2.2.2 hn))) ?_))))))
 rintro _ w ⟨fs, q, c2, s1, rfl, hfl2, hfo, hoh, H⟩
 refine JL.g (RX.len_slice rfl (by rw [sl37]; rfl) rfl) ?_
 refine JL.g (RX.move) (JL.nil (J.block (J.loop (ι := Nat × Nat × List Seg) (S := fun z => [(19, .int .i64 ((z.1 : Nat) : Int))]) (Φ := fun z w => z.1 ≤ fs.length ∧ z.2.1 ≤ j + z.1 ∧ A z.2.1 z.2.2 ∧ Hp w0 w (s1 :: [(b6, cel [.bool false] 4)] :: [(b5, cel [.func (.func fn) #[] cv.toArray] 40)] :: [(b4, cel [.int .i64 ((n : Nat) : Int)] 3)] :: [(b3, cel [.pointer (some ⟨cb, 0, none⟩)] 66)] :: (X ++ (z.2.2 ++ F)))) (μ := fun z => fs.length - z.1) (C := [(3, _), (4, _), (5, _), (6, _), (9, _), (11, _), (12, _), (17, _), (18, _), (30, _), (31, _), (32, _), (33, _), (34, _), (35, _), (36, _), (37, _), (38, _), (39, _), (40, _), (41, _), (42, _), (43, _), (44, _), (45, _), (46, _), (47, _), (48, _), (49, _), (50, _), (51, _), (52, _), (53, _), (54, _)]) (0, j, G) ⟨rfl, rfl, rfl, rfl, rfl, rfl, rfl, rfl, rfl, rfl, rfl, rfl, rfl, rfl, rfl, rfl, rfl, rfl, rfl, rfl, rfl, rfl, rfl, rfl, rfl, rfl, rfl, rfl, rfl, rfl, rfl, rfl, rfl, rfl, trivial⟩ ⟨rfl, trivial⟩ ?_ ?_)))
 · exact ⟨by simp, by simp, hA, H⟩
 clear H
 rintro ⟨i, j1, G1⟩ ρ w ⟨hi, hj1, hA1, H⟩ IH
 simp only at hi hj1 hA1 H
 dsimp only
 refine J.seq (J.region (JL.g (RX.lt rfl rfl) (JL.nil (J.seq (J.cond_d rfl (fun hlt => ?_) (fun hlt => ?_))))))
 ·
  have hil : i < fs.length := by omega
  obtain ⟨f9, hf9⟩ : ∃ f9, fs[i]? = some f9 := ⟨_, List.getElem?_eq_getElem hil⟩
  obtain ⟨qb, qo, rfl⟩ := spot_some (hoh.slAt (L := [])) (by rw [hdV_len]; omega)
  have hcn : 2 ≤ cnt n := by unfold cnt; split <;> omega
  refine J.skip (J.seq (J.block (J.seq (J.region (JL.g (RX.indexAddr rfl rfl sl37 (by omega) (by omega) (o' := qo + i * 3) (by omega)) (JL.g (RX.loadAggS H hoh.slAt rfl (j := i * 3) (by omega) (vs := tv (kf f9) ((n : Nat) : Int) none 0 0) (hdV_get hf9) ag39) (JL.e (EX.alloc H zr39 rfl) ?_)))))))
  rintro _ w ⟨b8, rfl, H⟩
  refine JL.e (EX.storeAgg H rfl rfl (i := 0) (vs := tv (kf f9) ((n : Nat) : Int) none 0 0) (l' := tv (kf f9) ((n : Nat) : Int) none 0 0) rfl tv_cell (by simp) sz39 rfl rfl) ?_
  rintro _ w H
  refine JL.nil (J.seq (J.region (JL.g (RX.load H rfl (i := 3) (v := .func _ _ _) rfl rfl one40) (JL.g (RX.loadAgg H rfl (i := 0) (vs := tv (kf f9) ((n : Nat) : Int) none 0 0) rfl rfl ag39) (JL.e (EX.callv (fv := []) (cv := cv) rfl hY.1 rfl rfl (hY.2 j1 G1 ([(b8, cel (tv (kf f9) ((n : Nat) : Int) none 0 0) 39)] :: s1 :: [(b6, cel [.bool false] 4)] :: [(b5, cel [.func (.func fn) #[] cv.toArray] 40)] :: [(b4, cel [.int .i64 ((n : Nat) : Int)] 3)] :: [(b3, cel [.pointer (some ⟨cb, 0, none⟩)] 66)] :: X) _ (.lf f9 n) _ [] hA1 (by omega) (hfo f9 (List.mem_of_getElem? hf9)) rfl (own_lf f9 n) H.nil)) ?_)))))
  rintro _ w ⟨rfl, G2, hA2, H⟩
  refine JL.g (RX.not rfl) (JL.nil (J.cond_f rfl rfl (J.skip (J.inBlock (J.region (JL.g (RX.add rfl rfl (wi (n := i + 1) (by omega) (by omega))) (JL.mi rfl (JL.nil ?_))))))))
  exact IH (i + 1, j1 + 1, G2) _ _ (by simp only; omega) ⟨rfl, rfl, rfl, rfl, rfl, rfl, rfl, rfl, rfl, rfl, rfl, rfl, rfl, rfl, rfl, rfl, rfl, rfl, rfl, rfl, rfl, rfl, rfl, rfl, rfl, rfl, rfl, rfl, rfl, rfl, rfl, rfl, rfl, rfl, trivial⟩ ⟨rfl, trivial⟩ ⟨by simp only; omega, by simp only; omega, hA2, H.weak (fun f => by simp only [sumBy, sumBy_app, List.cons_append]; omega)⟩
 ·
  obtain rfl : i = fs.length := by omega
  refine J.exit rfl (J.seq (J.seq (J.region (JL.g (RX.load H rfl (i := 3) (v := .int _ _) rfl rfl one3) (JL.e (EX.call rfl cl47 rfl ((Divs_b H))) ?_)))))
  rintro _ w ⟨nb, rfl, H⟩
  refine JL.nil (J.block (J.rangeFunc (fv := []) (cv := [.pointer (some ⟨nb, 0, none⟩)]) H rfl cl77 rfl ?_))
  generalize hasg : (Code.region 8 _ false) = asg
  generalize hbdy : (Code.block 3 _) = bdy
  rintro r l a w1 hl2 ha H
  have hY2 : YD l (AE l r (loopObj .ready 24 a.tmps #[30] asg bdy r) A n j) w0 (divL n) (s1 :: [(b6, cel [.bool false] 4)] :: [(b5, cel [.func (.func fn) #[] cv.toArray] 40)] :: [(b4, cel [.int .i64 ((n : Nat) : Int)] 3)] :: [(b3, cel [.pointer (some ⟨cb, 0, none⟩)] 66)] :: (X ++ F)) := by
    rintro i _ Xd w x hx ⟨j2, G2, rfl, hj2, hA2⟩ H
    have hxc := divL_get hn hx
    replace H : Hp w0 w ([(l, loopObj .ready 24 a.tmps #[30] asg bdy r)] :: [(r, Obj.deferred (some []))] :: s1 :: [(b6, cel [.bool false] 4)] :: [(b5, cel [.func (.func fn) #[] cv.toArray] 40)] :: [(b4, cel [.int .i64 ((n : Nat) : Int)] 3)] :: [(b3, cel [.pointer (some ⟨cb, 0, none⟩)] 66)] :: (Xd ++ (X ++ (G2 ++ F)))) := H.weak (fun f => by simp only [sumBy, sumBy_app, List.cons_append]; omega)
    refine J.yieldAt H (i := 0) rfl ha (J.code hasg (J.region (JL.ai rfl (JL.nil (J.beginRound H (i := 0) rfl fun w H => ?_)))))
    replace H : Hp w0 w ([(l, loopObj .busy 24 a.tmps #[30] asg bdy r)] :: [(r, Obj.deferred (some []))] :: s1 :: [(b6, cel [.bool false] 4)] :: [(b5, cel [.func (.func fn) #[] cv.toArray] 40)] :: [(b4, cel [.int .i64 ((n : Nat) : Int)] 3)] :: [(b3, cel [.pointer (some ⟨cb, 0, none⟩)] 66)] :: (Xd ++ (X ++ (G2 ++ F)))) := H
    refine J.code hbdy (J.block (J.seq (J.seq (J.region (JL.mi rfl (JL.g (RX.lt rfl rfl) (JL.mb rfl (JL.splitS 33 rfl (fun h1 => ?_) (fun h1 => ?_)))))))))
    ·
     first | have h1p := of_decide_eq_true h1 | skip
     refine JL.no ⟨_, rfl, gno h1⟩ (JL.no ⟨_, rfl, gno h1⟩ (JL.no ⟨_, rfl, gno h1⟩ (JL.g (RX.pick_t rfl h1) (JL.nil (J.cond_t rfl rfl (J.exit rfl (J.roundEnd H (i := 0) rfl fun w H => ?_)))))))
     replace H : Hp w0 w ([(l, loopObj .ready 24 a.tmps #[30] asg bdy r)] :: [(r, Obj.deferred (some []))] :: s1 :: [(b6, cel [.bool false] 4)] :: [(b5, cel [.func (.func fn) #[] cv.toArray] 40)] :: [(b4, cel [.int .i64 ((n : Nat) : Int)] 3)] :: [(b3, cel [.pointer (some ⟨cb, 0, none⟩)] 66)] :: (Xd ++ (X ++ (G2 ++ F)))) := H
     exact ⟨_, rfl, rfl, [(l, loopObj .ready 24 a.tmps #[30] asg bdy r)] :: [(r, Obj.deferred (some []))] :: G2, ⟨j2, G2, rfl, Nat.le_trans hj2 (told_mono _ _ _), hA2⟩, H.weak (fun f => by simp only [sumBy, sumBy_app, List.cons_append]; omega)⟩
    ·
     first | have h1p := of_decide_eq_false h1 | skip
     refine JL.go ⟨_, rfl, h1⟩ (RX.movev (v := .int _ _) rfl) (JL.go ⟨_, rfl, h1⟩ (RX.load H rfl (i := 5) (v := .int _ _) rfl rfl one3) (JL.go ⟨_, rfl, h1⟩ (RX.eq rfl rfl) (JL.g (RX.pick_f rfl h1) (JL.nil (J.cond_d rfl (fun h2 => ?_) (fun h2 => ?_))))))
     ·
      refine J.exit rfl (J.roundEnd H (i := 0) rfl fun w H => ?_)
      replace H : Hp w0 w ([(l, loopObj .ready 24 a.tmps #[30] asg bdy r)] :: [(r, Obj.deferred (some []))] :: s1 :: [(b6, cel [.bool false] 4)] :: [(b5, cel [.func (.func fn) #[] cv.toArray] 40)] :: [(b4, cel [.int .i64 ((n : Nat) : Int)] 3)] :: [(b3, cel [.pointer (some ⟨cb, 0, none⟩)] 66)] :: (Xd ++ (X ++ (G2 ++ F)))) := H
      exact ⟨_, rfl, rfl, [(l, loopObj .ready 24 a.tmps #[30] asg bdy r)] :: [(r, Obj.deferred (some []))] :: G2, ⟨j2, G2, rfl, Nat.le_trans hj2 (told_mono _ _ _), hA2⟩, H.weak (fun f => by simp only [sumBy, sumBy_app, List.cons_append]; omega)⟩
     ·
      obtain ⟨rfl, rfl, rfl⟩ : x = 2 ∧ n = 4 ∧ i = 1 := by
        rcases hxc with rfl | rfl | h
        · omega
        · exact absurd rfl h2
        · exact h
      have hj2 : j2 ≤ j + 2 := hj2
      have ih2 := ih rfl
      refine J.skip (J.seq (J.region (JL.g (RX.load H rfl (i := 6) (v := .pointer _) rfl rfl one66) (JL.mi rfl (JL.e (EX.call rfl cl46 rfl ((show Ret _ _ [.pointer (some ⟨cb, 0, none⟩), .int .i64 2] w _ from heads_b (a := 2) H (slApL (slAp hc)).cons.cons.cons.cons.cons.cons.cons (slApL (slAp hs)).cons.cons.cons.cons.cons.cons.cons hl hpo.2.2.2 (.inr (.inl rfl))))) ?_)))))
      rintro _ w ⟨fs2, q2, c3, s2, rfl, hfl3, hfo2, hoh2, H⟩
      refine JL.g (RX.len_slice rfl (by rw [sl37]; rfl) rfl) ?_
      refine JL.g (RX.move) (JL.nil (J.block (J.loop (ι := Nat × Nat × List Seg) (S := fun z => [(42, .int .i64 ((z.1 : Nat) : Int))]) (Φ := fun z w => z.1 ≤ fs2.length ∧ z.2.1 ≤ j + 2 + 2 * z.1 ∧ A z.2.1 z.2.2 ∧ Hp w0 w (s2 :: [(l, loopObj .busy 24 a.tmps #[30] asg bdy r)] :: [(r, Obj.deferred (some []))] :: s1 :: [(b6, cel [.bool false] 4)] :: [(b5, cel [.func (.func fn) #[] cv.toArray] 40)] :: [(b4, cel [.int .i64 ((4 : Nat) : Int)] 3)] :: [(b3, cel [.pointer (some ⟨cb, 0, none⟩)] 66)] :: (Xd ++ (X ++ (z.2.2 ++ F))))) (μ := fun z => fs2.length - z.1) (C := [(3, _), (4, _), (5, _), (6, _), (9, _), (40, _), (41, _)]) (0, j2, G2) ⟨rfl, rfl, rfl, rfl, rfl, rfl, rfl, trivial⟩ ⟨rfl, trivial⟩ ?_ ?_)))
      · exact ⟨by simp, by simp only; omega, hA2, H⟩
      clear H
      rintro ⟨k, j3, G3⟩ ρ w ⟨hk, hj3, hA3, H⟩ IH
      simp only at hk hj3 hA3 H
      dsimp only
      refine J.seq (J.region (JL.g (RX.lt rfl rfl) (JL.nil (J.seq (J.cond_d rfl (fun hlt => ?_) (fun hlt => ?_))))))
      ·
       have hkl : k < fs2.length := by omega
       obtain ⟨f9, hf9⟩ : ∃ f9, fs2[k]? = some f9 := ⟨_, List.getElem?_eq_getElem hkl⟩
       obtain ⟨qb, qo, rfl⟩ := spot_some (hoh2.slAt (L := [])) (by rw [hdV_len]; omega)
       refine J.skip (J.seq (J.block (J.seq (J.region (JL.g (RX.indexAddr rfl rfl sl37 (by omega) (by omega) (o' := qo + k * 3) (by omega)) (JL.g (RX.loadAggS H hoh2.slAt rfl (j := k * 3) (by omega) (vs := tv (kf f9) 2 none 0 0) (hdV_get hf9) ag39) (JL.e (EX.alloc H zr39 rfl) ?_)))))))
       rintro _ w ⟨b11, rfl, H⟩
       refine JL.e (EX.storeAgg H rfl rfl (i := 0) (vs := tv (kf f9) 2 none 0 0) (l' := tv (kf f9) 2 none 0 0) rfl tv_cell (by simp) sz39 rfl rfl) ?_
       rintro _ w H
       refine JL.nil (J.seq ?_)
       replace H : Hp w0 w ([(b11, cel (tv (kf f9) 2 none 0 0) 39)] :: s2 :: [(l, loopObj .busy 24 a.tmps #[30] asg bdy r)] :: [(r, Obj.deferred (some []))] :: s1 :: [(b6, cel [.bool false] 4)] :: [(b5, cel [.func (.func fn) #[] cv.toArray] 40)] :: [(b4, cel [.int .i64 ((4 : Nat) : Int)] 3)] :: [(b3, cel [.pointer (some ⟨cb, 0, none⟩)] 66)] :: (Xd ++ (X ++ (G3 ++ F)))) := H
       refine J.any hmix fun w hs => ?_
       replace H := H.same hs; clear hs
       refine JA.stage (listed := [false, false, false, false, false, false, false]) 5 [0, 1, 2, 3, 4] H (by kernel_rfl) rfl rfl (JI.go rfl trivial (fun w H => RX.load H rfl (i := 8) (v := .pointer _) rfl rfl one66) (JI.go rfl trivial (fun w H => RX.load H rfl (i := 7) (v := .int _ _) rfl rfl one3) (JI.go rfl trivial (fun w H => RX.movev (v := .int _ _) rfl) (JI.go rfl trivial (fun w H => RX.quo rfl rfl (by decide) (r := ((2 : Nat) : Int)) (by decide)) (JI.go rfl trivial (fun w H => RX.makeFunc (fv := []) (cv := [.pointer (some ⟨b5, 0, none⟩), .pointer (some ⟨b11, 0, none⟩)]) rfl rfl) (JI.nil fun w H => (JL.e (EX.call rfl cl24 rfl ((ih2 w0 w (s2 :: [(l, loopObj .busy 24 a.tmps #[30] asg bdy r)] :: [(r, Obj.deferred (some []))] :: s1 :: [(b6, cel [.bool false] 4)] :: [(b4, cel [.int .i64 ((4 : Nat) : Int)] 3)] :: [(b3, cel [.pointer (some ⟨cb, 0, none⟩)] 66)] :: (Xd ++ X)) G3 ([(b5, cel [.func (.func fn) #[] cv.toArray] 40)] :: [(b11, cel (tv (kf f9) 2 none 0 0) 39)] :: F) _ [.pointer (some ⟨b5, 0, none⟩), .pointer (some ⟨b11, 0, none⟩)] A N j3 d pr m fl p c cb (each1_fn hY) hA3 (by show j3 + 2 ≤ N; have : j + 6 ≤ N := hjN; omega) (slApL (hc)).cons.cons.cons.cons.cons.cons.cons (slApL (hs)).cons.cons.cons.cons.cons.cons.cons hl hpo (H.weak (fun f => by simp only [sumBy, sumBy_app, List.cons_append]; omega))))) ?_)))))))
       rintro _ w ⟨rfl, j4, G4, hj4, hA4, H⟩
       have hj4 : j4 ≤ j3 + 2 := hj4
       refine JL.ab rfl (JL.nil (J.seq (J.region (JL.mb rfl (JL.g (RX.not rfl) (JL.nil (J.cond_f rfl rfl (J.skip (J.inBlock (J.region (JL.g (RX.add rfl rfl (wi (n := k + 1) (by omega) (by omega))) (JL.mi rfl (JL.nil ?_)))))))))))))
       exact IH (k + 1, j4, G4) _ _ (by simp only; omega) ⟨rfl, rfl, rfl, rfl, rfl, rfl, rfl, trivial⟩ ⟨rfl, trivial⟩ ⟨by simp only; omega, by simp only; omega, hA4, H.weak (fun f => by simp only [sumBy, sumBy_app, List.cons_append]; omega)⟩
      ·
       replace H : Hp w0 w ([(l, loopObj .busy 24 a.tmps #[30] asg bdy r)] :: [(r, Obj.deferred (some []))] :: s1 :: [(b6, cel [.bool false] 4)] :: [(b5, cel [.func (.func fn) #[] cv.toArray] 40)] :: [(b4, cel [.int .i64 ((4 : Nat) : Int)] 3)] :: [(b3, cel [.pointer (some ⟨cb, 0, none⟩)] 66)] :: (Xd ++ (X ++ (G3 ++ F)))) := H.drop
       refine J.exit rfl (J.inBlock (J.roundEnd H (i := 0) rfl fun w H => ?_))
       replace H : Hp w0 w ([(l, loopObj .ready 24 a.tmps #[30] asg bdy r)] :: [(r, Obj.deferred (some []))] :: s1 :: [(b6, cel [.bool false] 4)] :: [(b5, cel [.func (.func fn) #[] cv.toArray] 40)] :: [(b4, cel [.int .i64 ((4 : Nat) : Int)] 3)] :: [(b3, cel [.pointer (some ⟨cb, 0, none⟩)] 66)] :: (Xd ++ (X ++ (G3 ++ F)))) := H
       exact ⟨_, rfl, rfl, [(l, loopObj .ready 24 a.tmps #[30] asg bdy r)] :: [(r, Obj.deferred (some []))] :: G3, ⟨j3, G3, rfl, by show j3 ≤ j + 6; omega, hA3⟩, H.weak (fun f => by simp only [sumBy, sumBy_app, List.cons_append]; omega)⟩
  rw [← hl2]
  refine Ret.mono (divs_b (X := [[(nb, cel [.int .i64 ((n : Nat) : Int)] 3)]]) (G0 := [(l, loopObj .ready 24 a.tmps #[30] asg bdy r)] :: [(r, Obj.deferred (some []))] :: G1) hn hY2 (SlAt.here rfl) ⟨j1, G1, rfl, by show j1 ≤ told n j 0; unfold told; rw [if_neg (by omega)]; omega, hA1⟩ (H.weak (fun f => by simp only [sumBy, sumBy_app, List.cons_append]; omega))) ?_
  rintro v w3 ⟨_, i5, ⟨j5, G5, rfl, hj5, hA5⟩, H⟩
  replace H : Hp w0 w3 ([(l, loopObj .ready 24 a.tmps #[30] asg bdy r)] :: [(r, Obj.deferred (some []))] :: s1 :: [(b6, cel [.bool false] 4)] :: [(b5, cel [.func (.func fn) #[] cv.toArray] 40)] :: [(b4, cel [.int .i64 ((n : Nat) : Int)] 3)] :: [(b3, cel [.pointer (some ⟨cb, 0, none⟩)] 66)] :: (X ++ (G5 ++ F))) := H.weak (fun f => by simp only [sumBy, sumBy_app, List.cons_append]; omega)
  refine ⟨0, _, H, rfl, fun w H => ?_⟩
  replace H : Hp w0 w ([(l, loopObj .exhausted 24 a.tmps #[30] asg bdy r)] :: [(r, Obj.deferred (some []))] :: s1 :: [(b6, cel [.bool false] 4)] :: [(b5, cel [.func (.func fn) #[] cv.toArray] 40)] :: [(b4, cel [.int .i64 ((n : Nat) : Int)] 3)] :: [(b3, cel [.pointer (some ⟨cb, 0, none⟩)] 66)] :: (X ++ (G5 ++ F))) := H
  refine J.inBlock (J.seq (J.seq (J.region (JL.g (RX.load H rfl (i := 6) (v := .pointer _) rfl rfl one66) (JL.g (RX.load H rfl (i := 5) (v := .int _ _) rfl rfl one3) (JL.e (EX.call rfl cl50 rfl ((hard_b H (slAp hc).cons.cons.cons.cons.cons.cons.cons (slAp hs).cons.cons.cons.cons.cons.cons.cons hl hpo.2.2.1 hn))) ?_))))))
  rintro _ w ⟨rfl, H⟩
  refine JL.g (RX.not rfl) (JL.nil (J.cond_t rfl rfl (J.seq (J.region (JL.e (EX.store (v := .bool _) H rfl rfl (i := 3) (l' := [.bool true]) rfl rfl (by simp) sz4 rfl rfl) ?_)))))
  rintro _ w H
  refine JL.nil (J.ret_mark Tryz.func24 H (i := 1) rfl ?_)
  intro w2 a2 ha2 H
  replace H : Hp w0 w2 ([(l, loopObj .exhausted 24 a.tmps #[30] asg bdy r)] :: [(r, Obj.deferred none)] :: s1 :: [(b6, cel [.bool true] 4)] :: [(b5, cel [.func (.func fn) #[] cv.toArray] 40)] :: [(b4, cel [.int .i64 ((n : Nat) : Int)] 3)] :: [(b3, cel [.pointer (some ⟨cb, 0, none⟩)] 66)] :: (X ++ (G5 ++ F))) := H
  refine ⟨_, results_c1 ha2 rfl rfl H (i := 3) rfl one4, ?_⟩
  exact ⟨_, rfl, rfl, j5, G5, Nat.le_trans hj5 (told_le _ _ _), hA5, H.weak (fun f => by simp only [sumBy, sumBy_app, List.cons_append]; omega)⟩
theorem each_b {n : Nat} (hn : n = 1 ∨ n = 2 ∨ n = 4) : EachC n := by
 have h2 : EachC 2 := fun _ _ _ _ _ _ _ _ _ _ _ _ _ _ _ _ _ hY hA hj hc hs hl hpo H => each_step (.inr (.inl rfl)) (fun h => absurd h (by decide)) hY hA hj hc hs hl hpo H
 exact fun _ _ _ _ _ _ _ _ _ _ _ _ _ _ _ _ _ hY hA hj hc hs hl hpo H => each_step hn (fun _ => h2) hY hA hj hc hs hl hpo H
end Oo
end Go.Proofs.YtfaokllgaambjaaGreatDoor
namespace Go.Proofs.YtfaokllgaambjaaGreatDoor
open Go Go.Eng
set_option maxRecDepth 100000
set_option maxHeartbeats 1600000
theorem cl20 : callable Tryz.prog 20 = true := by kernel_rfl
theorem cl22 : callable Tryz.prog 22 = true := by kernel_rfl
theorem cl23 : callable Tryz.prog 23 = true := by kernel_rfl
theorem cl25 : callable Tryz.prog 25 = true := by kernel_rfl
theorem sz23 : szOf Tryz.prog 23 = some 1 := by kernel_rfl
namespace Oo
def YC (l n : Nat) (w0 : World) (GF : List Seg) : Prop := ∀ (X : List Seg) (W : World) (o : Od) (vs : List Value) (s : Seg), o.ok → o.n = n → o.tr.Own vs s → Hp w0 W (s :: (X ++ GF)) →
  YieldAt Fence.wide 0 Tryz.prog l #[.agg vs.toArray] W fun e W' => ∃ v, e = .returned v ∧ v = .bool true ∧ Hp w0 W' (X ++ GF)
theorem Errs.app {F : List Seg} {E : Nat → Value} {Q : Nat → Addr} (h : Errs F E Q) : ∀ X : List Seg, Errs (X ++ F) E Q
  | [] => h
  | _ :: X => (Errs.app h X).cons
theorem e5_ie {F : List Seg} {E : Nat → Value} (h : GErr F 4 (E 5)) (b : Bool) : isErr (e5 E b) = true ∧ isNil (e5 E b) = b := by
 cases b
 · exact ⟨h.ie, h.nn⟩
 · exact ⟨rfl, rfl⟩
theorem all11_b {l n : Nat} {w0 : World} {GF : List Seg} (hY : YC l n w0 GF) {bl bY j : Nat} (hj : j < 4095) {X : List Seg} {w : World} {o : Od} {vs : List Value} {s : Seg} (hok : o.ok) (hn : o.n = n) (hO : o.tr.Own vs s) (H : Hp w0 w (s :: (X ++ ([[(bl, cel [.int .i64 (4096 - ((j : Nat) : Int))] 3)], [(bY, cel [.func (.yield l) #[] #[]] 40)]] ++ GF)))) : Ret Tryz.prog 25 [.agg vs.toArray, .pointer (some ⟨bl, 0, none⟩), .pointer (some ⟨bY, 0, none⟩)] w fun v w' => v = .bool true ∧ Hp w0 w' (X ++ ([[(bl, cel [.int .i64 (4096 - ((j + 1 : Nat) : Int))] 3)], [(bY, cel [.func (.yield l) #[] #[]] 40)]] ++ GF)) := by
 refine Calls.of_J (n := 14) Tryz.func25 rfl rfl rfl (J.seq ?_)
 obtain ⟨k, nn, p, m, c, rfl⟩ := hO.shape
 replace H : Hp w0 w ([(bl, cel [.int .i64 (4096 - ((j : Nat) : Int))] 3)] :: [(bY, cel [.func (.yield l) #[] #[]] 40)] :: s :: (X ++ GF)) := H.weak (fun f => by simp only [sumBy, sumBy_app, List.cons_append]; omega)
 refine J.region (JL.e (EX.box (v := .agg _) H rfl rfl) ?_)
 rintro _ w ⟨b3, rfl, H⟩
 refine JL.ab rfl (JL.nil (J.seq (J.region (JL.g (RX.load H rfl (i := 1) (v := .int _ _) rfl rfl one3) (JL.g (RX.sub rfl rfl (w_i64 (r := 4096 - ((j + 1 : Nat) : Int)) (by omega) (by omega) (by omega))) (JL.e (EX.store (v := .int _ _) H rfl rfl (i := 1) (l' := [.int .i64 (4096 - ((j + 1 : Nat) : Int))]) rfl rfl (by simp) sz3 rfl rfl) ?_))))))
 rintro _ w H
 refine JL.nil (J.seq ?_)
 replace H : Hp w0 w ([(b3, cel (tv k nn p m c) 39)] :: [(bl, cel [.int .i64 (4096 - ((j + 1 : Nat) : Int))] 3)] :: [(bY, cel [.func (.yield l) #[] #[]] 40)] :: s :: (X ++ GF)) := H
 refine J.regionY (FL.go fair_wide rfl trivial (RX.load H rfl (i := 2) (v := .func (.yield l) #[] #[]) rfl rfl one40) (FL.go fair_wide rfl trivial (RX.loadAgg H rfl (i := 0) (vs := tv k nn p m c) rfl rfl ag39) (FL.doesIn fair_wide rfl trivial (EX.yield rfl rfl ((hY ([(b3, cel (tv k nn p m c) 39)] :: [(bl, cel [.int .i64 (4096 - ((j + 1 : Nat) : Int))] 3)] :: [(bY, cel [.func (.yield l) #[] #[]] 40)] :: X) _ o _ s hok hn hO (H.weak (fun f => by simp only [sumBy, sumBy_app, List.cons_append]; omega))))) ?_)))
 rintro _ w ⟨rfl, H⟩
 replace H : Hp w0 w ([(b3, cel (tv k nn p m c) 39)] :: [(bl, cel [.int .i64 (4096 - ((j + 1 : Nat) : Int))] 3)] :: [(bY, cel [.func (.yield l) #[] #[]] 40)] :: (X ++ GF)) := H
 refine FL.go fair_wide rfl trivial (RX.movev (v := .bool _) rfl) (FL.go fair_wide rfl ⟨_, rfl, rfl⟩ (RX.load H rfl (i := 1) (v := .int _ _) rfl rfl one3) (FL.go fair_wide rfl ⟨_, rfl, rfl⟩ (RX.gt rfl rfl) (FL.go fair_wide rfl trivial (RX.pick_t rfl rfl) (FL.go fair_wide rfl trivial (RX.assignv (v := .bool _) rfl) (FL.nilJ (J.ret1 (v := .bool _) Tryz.func25 rfl rfl ?_))))))
 exact ⟨_, rfl, congrArg Value.bool (decide_eq_true (by omega)), H.weak (fun f => by simp only [sumBy, sumBy_app, List.cons_append]; omega)⟩
theorem all11_fn {l n : Nat} {w0 : World} {GF : List Seg} (hY : YC l n w0 GF) {bl bY : Nat} : YFn 25 [.pointer (some ⟨bl, 0, none⟩), .pointer (some ⟨bY, 0, none⟩)] (fun j G => G = [[(bl, cel [.int .i64 (4096 - ((j : Nat) : Int))] 3)], [(bY, cel [.func (.yield l) #[] #[]] 40)]]) w0 4095 n GF :=
  ⟨cl25, fun j G X W o vs s hA hj hok hn hO H => by
    subst hA
    exact (all11_b hY hj hok hn hO H).mono fun v w' ⟨h1, h2⟩ => ⟨h1, _, rfl, h2⟩⟩
theorem all1_b {l n : Nat} {w0 w : World} {X GF : List Seg} {E : Nat → Value} {Q : Nat → Addr} (hE : Errs GF E Q) (hn : n = 1 ∨ n = 2 ∨ n = 4) (hY : YC l n w0 GF) {nb pb c : Nat} {d pr : Int} {fl : List Int} {p : Option Addr} (hnb : SlAt X (some ⟨nb, 0, none⟩) [.int .i64 ((n : Nat) : Int)]) (hpb : SlAt X (some ⟨pb, 0, none⟩) (poV d p fl.length c pr)) (hs : SlAt X p (i64sV fl)) (hl : fl.length ≤ 1099511627776) (H : Hp w0 w (X ++ GF)) : Ret Tryz.prog 21 [.func (.yield l) #[] #[], .pointer (some ⟨nb, 0, none⟩), .pointer (some ⟨pb, 0, none⟩)] w fun _ w' => Hp w0 w' (X ++ GF) := by
 refine Calls.of_J (n := 21) Tryz.func21 rfl rfl rfl (J.seq (J.region (JL.e (EX.box (v := .func _ _ _) H rfl rfl) ?_)))
 rintro _ w ⟨bY, rfl, H⟩
 refine JL.nil (J.seq (J.seq (J.region (JL.g (RX.loadS H (slAp hnb).cons rfl (j := 0) rfl (v := .int _ _) rfl one3) (JL.g (RX.lt rfl rfl) (JL.mb rfl (JL.go ⟨_, rfl, (decide_eq_false (by omega))⟩ (RX.loadS H (slAp hnb).cons rfl (j := 0) rfl (v := .int _ _) rfl one3) (JL.go ⟨_, rfl, (decide_eq_false (by omega))⟩ (RX.gt rfl rfl) (JL.g (RX.pick_f rfl (decide_eq_false (by omega))) (JL.mb rfl (JL.go ⟨_, rfl, (decide_eq_false (by omega))⟩ (RX.loadAggS H (slAp hpb).cons rfl (j := 0) rfl (vs := poV d p fl.length c pr) rfl ag25) (JL.does ⟨_, rfl, (decide_eq_false (by omega))⟩ (EX.call rfl cl22 rfl ((PCheck_b H (slAp hs).cons hl (Errs.app hE X).cons))) ?_))))))))))))
 rintro _ w ⟨bg, rfl, hbg, H⟩
 have h5 := e5_ie (hE.at_ 5 (by omega) (by omega)) bg
 refine JL.go ⟨_, rfl, (decide_eq_false (by omega))⟩ (RX.ifnil_neq (v := (e5 E bg)) rfl rfl h5.1 if31) (JL.g (RX.pick_f rfl (decide_eq_false (by omega))) (JL.nil (J.cond rfl (fun hbad => ?_) (fun hbad => ?_))))
 ·
  refine J.ret0 Tryz.func21 rfl ?_
  exact ⟨_, rfl, H.weak (fun f => by simp only [sumBy, sumBy_app, List.cons_append]; omega)⟩
 ·
  have hpo : PolOk d fl pr := hbg (by rw [h5.2] at hbad; cases bg with
  | true => rfl
  | false => cases hbad)
  refine J.skip (J.seq (J.region (JL.e (EX.alloc H zr3 rfl) ?_)))
  rintro _ w ⟨bl, rfl, H⟩
  refine JL.e (EX.store (v := .int _ _) H rfl rfl (i := 0) (l' := [.int .i64 (4096 - ((0 : Nat) : Int))]) rfl rfl (by simp) sz3 rfl rfl) ?_
  rintro _ w H
  refine JL.nil ?_
  replace H : Hp w0 w ([(bl, cel [.int .i64 (4096 - ((0 : Nat) : Int))] 3)] :: [(bY, cel [.func (.yield l) #[] #[]] 40)] :: (X ++ GF)) := H
  refine J.held (fun w => Hp w0 w ([(bY, cel [.func (.yield l) #[] #[]] 40)] :: (X ++ GF))) hmix fun w hs => ?_
  replace H := H.same hs; clear hs
  have hS : Hp w0 w ([(bY, cel [.func (.yield l) #[] #[]] 40)] :: (X ++ GF)) := H.weak (fun f => by simp only [sumBy, sumBy_app, List.cons_append]; omega)
  refine JH.take 0 rfl (by kernel_rfl) (by kernel_rfl) (by kernel_rfl) rfl trivial (fun w H => RX.loadAggS H (slAp hpb).cons rfl (j := 0) rfl (vs := poV d p fl.length c pr) rfl ag25) hS (JH.take 2 rfl (by kernel_rfl) (by kernel_rfl) (by kernel_rfl) rfl trivial (fun w H => RX.loadS H (slAp hnb).cons rfl (j := 0) rfl (v := .int _ _) rfl one3) hS (JH.take 3 rfl (by kernel_rfl) (by kernel_rfl) (by kernel_rfl) rfl trivial (fun w H => RX.makeFunc (fv := []) (cv := [.pointer (some ⟨bl, 0, none⟩), .pointer (some ⟨bY, 0, none⟩)]) rfl rfl) hS (JH.all [1] (by kernel_rfl) (by decide) (JHO.does rfl rfl trivial (EX.call rfl cl23 rfl ((newCh_b H))) ?_))))
  rintro _ w ⟨cb, m, rfl, H⟩
  have hS : Hp w0 w ([(bY, cel [.func (.yield l) #[] #[]] 40)] :: (X ++ GF)) := H.weak (fun f => by simp only [sumBy, sumBy_app, List.cons_append]; omega)
  refine ⟨hS, ?_⟩
  refine JH.all [4] (by kernel_rfl) (by decide) (JHO.does rfl rfl trivial (EX.call rfl cl24 rfl ((each_b hn w0 w ([(cb, cel (chV d p fl.length c pr m) 96)] :: X) [[(bl, cel [.int .i64 (4096 - ((0 : Nat) : Int))] 3)], [(bY, cel [.func (.yield l) #[] #[]] 40)]] GF 25 [.pointer (some ⟨bl, 0, none⟩), .pointer (some ⟨bY, 0, none⟩)] (fun j G => G = [[(bl, cel [.int .i64 (4096 - ((j : Nat) : Int))] 3)], [(bY, cel [.func (.yield l) #[] #[]] 40)]]) 4095 0 d pr m fl p c cb (all11_fn hY) rfl (by unfold cnt; split <;> omega) (SlAt.here rfl) hs.cons hl hpo (H.weak (fun f => by simp only [sumBy, sumBy_app, List.cons_append]; omega))))) ?_)
  rintro _ w ⟨rfl, j9, _, hj9, rfl, H⟩
  have hS : Hp w0 w ([(bY, cel [.func (.yield l) #[] #[]] 40)] :: (X ++ GF)) := H.weak (fun f => by simp only [sumBy, sumBy_app, List.cons_append]; omega)
  refine ⟨hS, ?_⟩
  refine JH.done (by kernel_rfl) (J.end0 Tryz.func21 rfl ?_)
  exact ⟨_, rfl, H.weak (fun f => by simp only [sumBy, sumBy_app, List.cons_append]; omega)⟩
theorem All_b {w0 w : World} {F : List Seg} (H : Hp w0 w F) {n : Nat} {d pr : Int} {fl : List Int} {p : Option Addr} {c : Nat} (hs : SlAt F p (i64sV fl)) (hl : fl.length ≤ 1099511627776) : Ret Tryz.prog 7 [.int .i64 ((n : Nat) : Int), .agg (poV d p fl.length c pr).toArray] w fun v w' => ∃ nb pb q c2 sl, v = .func (.func 21) #[] #[.pointer (some ⟨nb, 0, none⟩), .pointer (some ⟨pb, 0, none⟩)] ∧ OwnSl 3 1 q fl.length c2 (i64sV fl) sl ∧ Hp w0 w' ([(nb, cel [.int .i64 ((n : Nat) : Int)] 3)] :: [(pb, cel (poV d q fl.length c2 pr) 25)] :: sl :: F) := by
 refine Calls.of_J (n := 10) Tryz.func7 rfl rfl rfl (J.seq (J.region (JL.e (EX.box (v := .int _ _) H rfl rfl) ?_)))
 rintro _ w ⟨nb, rfl, H⟩
 refine JL.e (EX.box (v := .agg _) H rfl rfl) ?_
 rintro _ w ⟨pb, rfl, H⟩
 refine JL.g (RX.assignv (v := .nilFunc) rfl) (JL.nil (J.seq (J.region (JL.g (RX.fieldAddr rfl fo25_1 rfl) (JL.g (RX.load H rfl (i := 0) (v := .slice _ _ _) rfl rfl one23) (JL.e (EX.call rfl cl20 rfl ((iclone_b H hs.cons.cons hl))) ?_))))))
 rintro _ w ⟨q, c2, sl, rfl, ho, H⟩
 refine JL.g (RX.fieldAddr rfl fo25_1 rfl) (JL.e (EX.store (v := .slice _ _ _) H rfl rfl (i := 1) (l' := poV d q fl.length c2 pr) rfl rfl (by simp [poV]) sz23 rfl rfl) ?_)
 rintro _ w H
 refine JL.nil (J.seq ?_)
 replace H : Hp w0 w (sl :: [(pb, cel (poV d q fl.length c2 pr) 25)] :: [(nb, cel [.int .i64 ((n : Nat) : Int)] 3)] :: F) := H
 refine J.region (JL.g (RX.makeFunc (fv := []) (cv := [.pointer (some ⟨nb, 0, none⟩), .pointer (some ⟨pb, 0, none⟩)]) rfl rfl) (JL.g (RX.assignv (v := .func _ _ _) rfl) (JL.nil (J.ret1 Tryz.func7 rfl rfl ?_))))
 exact ⟨_, rfl, nb, pb, q, c2, sl, rfl, ho, H.weak (fun f => by simp only [sumBy, sumBy_app, List.cons_append]; omega)⟩
end Oo
end Go.Proofs.YtfaokllgaambjaaGreatDoor
namespace Go.Proofs.YtfaokllgaambjaaGreatDoor
open Go Go.Eng
set_option maxRecDepth 100000
set_option maxHeartbeats 1600000
theorem cl8 : callable Tryz.prog 8 = true := by kernel_rfl
theorem ud2 : Tryz.prog.underlying 2 = some (.int .i64) := by kernel_rfl
namespace Oo
def cutZ (l : List Int) (i : Nat) : Int := ((l[i]?).getD 0).tmod 1099511627777
def cutL (l : List Int) (n i : Nat) : List Int := (List.range n).map fun k => if k < i then cutZ l k else 0
def cutZs (a b : List Int) (n : Nat) : List (Int × Int) := (List.range n).map fun k => (cutZ a k, cutZ b k)
theorem cutZ_le (l : List Int) (i : Nat) : (cutZ l i).natAbs ≤ 1099511627776 := by
 unfold cutZ
 have h1 := Int.tmod_lt_of_pos ((l[i]?).getD 0) (show (0 : Int) < 1099511627777 by decide)
 have h2 := Int.lt_tmod_of_pos ((l[i]?).getD 0) (show (0 : Int) < 1099511627777 by decide)
 omega
theorem cutL_len (l : List Int) (n i : Nat) : (cutL l n i).length = n := by simp [cutL]
theorem cutL_get {l : List Int} {n i k : Nat} (hk : k < n) : (cutL l n i)[k]? = some (if k < i then cutZ l k else 0) := by
 unfold cutL
 rw [List.getElem?_map, List.getElem?_range hk]; rfl
theorem cutL_set {l : List Int} {n i : Nat} (hi : i < n) : (cutL l n i).set i (cutZ l i) = cutL l n (i + 1) := by
 apply List.ext_getElem?
 intro k
 rw [List.getElem?_set, cutL_len]
 by_cases hk : k < n
 · rw [cutL_get hk, cutL_get hk]
   by_cases e : i = k
   · subst e; rw [if_pos rfl, if_pos hi, if_pos (by omega)]
   · rw [if_neg e]
     by_cases h : k < i
     · rw [if_pos h, if_pos (by omega)]
     · rw [if_neg h, if_neg (by omega)]
 · rw [if_neg (by omega), List.getElem?_eq_none (by rw [cutL_len]; omega), List.getElem?_eq_none (by rw [cutL_len]; omega)]
theorem cutL_skip {l : List Int} {n i : Nat} (h : l.length ≤ i) : cutL l n i = cutL l n (i + 1) := by
 unfold cutL
 refine List.map_congr_left fun k _ => ?_
 by_cases e : k < i
 · rw [if_pos e, if_pos (by omega)]
 · rw [if_neg e]
   by_cases e2 : k < i + 1
   · rw [if_pos e2]
     have : k = i := by omega
     subst this
     unfold cutZ
     rw [List.getElem?_eq_none h]; rfl
   · rw [if_neg e2]
theorem cutL_zero (l : List Int) (n : Nat) : i64sV (cutL l n 0) = List.replicate n (.int .i64 0) := by
 unfold i64sV cutL
 rw [List.map_map]
 apply List.ext_getElem?
 intro k
 rw [List.getElem?_map, List.getElem?_replicate]
 by_cases hk : k < n
 · rw [List.getElem?_range hk, if_pos hk]; rfl
 · rw [List.getElem?_eq_none (by simp; omega), if_neg hk]; rfl
theorem cutZs_len (a b : List Int) (n : Nat) : (cutZs a b n).length = n := by simp [cutZs]
theorem cutZs_re (a b : List Int) (n : Nat) : zre (cutZs a b n) = cutL a n n := by
 unfold zre cutZs cutL
 rw [List.map_map]
 refine List.map_congr_left fun k hk => ?_
 rw [if_pos (List.mem_range.1 hk)]; rfl
theorem cutZs_im (a b : List Int) (n : Nat) : zim (cutZs a b n) = cutL b n n := by
 unfold zim cutZs cutL
 rw [List.map_map]
 refine List.map_congr_left fun k hk => ?_
 rw [if_pos (List.mem_range.1 hk)]; rfl
theorem mkL : Tryz.prog.underlying 22 = some (.slice 2) ∧ ∃ i, Tryz.prog.info? 2 = some i ∧ i.zero = some (.int .i64 0) ∧ i.size = 1 ∧ i.bytes = 8 := ⟨by kernel_rfl, info_one (by kernel_rfl) (by kernel_rfl)⟩
def ZI (xs : List (Nat × Nat)) (zs : List (Int × Int)) (i : Nat) : Prop := xs.length = zs.length ∧ ∀ k, k < i → ∀ z, zs[k]? = some z → ∃ f, xs[k]? = some f ∧ Zc f z
theorem ZI.full {xs : List (Nat × Nat)} {zs : List (Int × Int)} (h : ZI xs zs zs.length) : ZL xs zs := ⟨h.1, fun i z hz => h.2 i (getE_lt hz) z hz⟩
theorem ZI.set {xs : List (Nat × Nat)} {zs : List (Int × Int)} {i : Nat} (h : ZI xs zs i) {z : Int × Int} (hz : zs[i]? = some z) {f : Nat × Nat} (hf : Zc f z) : ZI (xs.set i f) zs (i + 1) := by
 refine ⟨by simp [h.1], fun k hk y hy => ?_⟩
 rw [List.getElem?_set]
 by_cases e : i = k
 · subst e
   rw [if_pos rfl, h.1, if_pos (getE_lt hz)]
   rw [hz] at hy; cases hy
   exact ⟨f, rfl, hf⟩
 · rw [if_neg e]
   exact h.2 k (by omega) y hy
theorem wholes_b {w0 w : World} {F : List Seg} (H : Hp w0 w F) {re im : List Int} {pr pi : Option Addr} {cr ci n : Nat} (hr : SlAt F pr (i64sV re)) (hi_ : SlAt F pi (i64sV im)) (hlr : re.length ≤ 4611686018427387904) (hli : im.length ≤ 4611686018427387904) (hn4 : n ≤ 4) (hn1 : 1 ≤ n) : Ret Tryz.prog 5 [.slice pr re.length cr, .slice pi im.length ci, .int .i64 ((n : Nat) : Int), .int .i64 1099511627776] w fun v w' => ∃ bx ba bb xs, v = .tuple #[.slice (some ⟨bx, 0, none⟩) n n, .slice (some ⟨ba, 0, none⟩) n n, .slice (some ⟨bb, 0, none⟩) n n] ∧ ZL xs (cutZs re im n) ∧ Hp w0 w' ([(bb, cel (i64sV (cutL im n n)) 2)] :: [(ba, cel (i64sV (cutL re n n)) 2)] :: [(bx, cel (cxs xs) 49)] :: F) := by
 refine Calls.of_J (n := 72) Tryz.func5 rfl rfl rfl (J.seq (J.region (JL.al rfl (JL.al rfl (JL.al rfl (JL.nil (J.seq (J.region (JL.mi rfl (JL.e (EX.makeS (e := 49) (m := n) H mkC.1 mkC.2 rfl rfl rfl (by omega) (by omega) (by omega)) ?_))))))))))
 rintro _ w ⟨bx, rfl, H⟩
 rw [fnL_rep, repC] at H
 refine JL.al rfl (JL.nil (J.seq (J.region (JL.mi rfl (JL.e (EX.makeS (e := 2) (m := n) H mkL.1 mkL.2 rfl rfl rfl (by omega) (by omega) (by omega)) ?_)))))
 rintro _ w ⟨ba, rfl, H⟩
 rw [fnL_rep, ← cutL_zero re] at H
 refine JL.al rfl (JL.nil (J.seq (J.region (JL.mi rfl (JL.e (EX.makeS (e := 2) (m := n) H mkL.1 mkL.2 rfl rfl rfl (by omega) (by omega) (by omega)) ?_)))))
 rintro _ w ⟨bb, rfl, H⟩
 rw [fnL_rep, ← cutL_zero im] at H
 refine JL.al rfl (JL.nil (J.seq (J.seq (J.region (JL.ms rfl (JL.g (RX.len_slice rfl (by rw [sl27]; rfl) rfl) ?_))))))
 refine JL.g (RX.move) (JL.nil (J.block (J.loop (ι := Nat × List (Nat × Nat)) (S := fun z => [(23, .int .i64 ((z.1 : Nat) : Int))]) (Φ := fun z w => z.1 ≤ n ∧ ZI z.2 (cutZs re im n) z.1 ∧ Hp w0 w ([(bb, cel (i64sV (cutL im n z.1)) 2)] :: [(ba, cel (i64sV (cutL re n z.1)) 2)] :: [(bx, cel (cxs z.2) 49)] :: F)) (μ := fun z => n - z.1) (C := [(0, _), (1, _), (3, _), (11, _), (12, _), (13, _), (22, _)]) (0, List.replicate n (0, 0)) ⟨rfl, rfl, rfl, rfl, rfl, rfl, rfl, trivial⟩ ⟨rfl, trivial⟩ ?_ ?_)))
 · exact ⟨by simp, ⟨by simp [cutZs], fun k hk => absurd hk (Nat.not_lt_zero _)⟩, H⟩
 clear H
 rintro ⟨i, xs⟩ ρ w ⟨hi, hz, H⟩ IH
 simp only at hi hz H
 dsimp only
 refine J.seq (J.region (JL.g (RX.lt rfl rfl) (JL.nil (J.seq (J.cond_d rfl (fun hlt => ?_) (fun hlt => ?_))))))
 ·
  have hin : i < n := by omega
  refine J.skip (J.seq (J.block (J.seq (J.region (JL.mi rfl (JL.ai rfl (JL.nil (J.seq (J.seq (J.region (JL.mi rfl (JL.ms rfl (JL.g (RX.len_slice rfl (by rw [sl22]; rfl) rfl) ?_)))))))))))))
  refine JL.g (RX.lt rfl rfl) (JL.nil (J.join (ι := Unit) (fun _ => []) (fun _ w => Hp w0 w ([(bb, cel (i64sV (cutL im n i)) 2)] :: [(ba, cel (i64sV (cutL re n (i + 1))) 2)] :: [(bx, cel (cxs xs) 49)] :: F)) [(0, _), (1, _), (3, _), (11, _), (12, _), (13, _), (14, _), (22, _), (23, _)] ⟨rfl, rfl, rfl, rfl, rfl, rfl, rfl, rfl, rfl, trivial⟩ ?_ ?_))
  rotate_left
  ·
   intro k2 hk2
   refine J.cond_d rfl (fun h29 => ?_) (fun h29 => ?_)
   ·
    have hil1 : i < re.length := by omega
    obtain ⟨x1, hx1⟩ : ∃ x, re[i]? = some x := ⟨_, List.getElem?_eq_getElem hil1⟩
    obtain ⟨pb1, po1, rfl⟩ := spot_some hr (by rw [i64sV_len]; omega)
    have hcz1 : x1.tmod 1099511627777 = cutZ re i := by unfold cutZ; rw [hx1]; rfl
    refine J.region (JL.ms rfl (JL.mi rfl (JL.ms rfl (JL.mi rfl (JL.g (RX.indexAddr rfl rfl sl22 (by omega) (by omega) (o' := po1 + i) (by omega)) (JL.g (RX.loadS H hr.cons.cons.cons rfl (j := i) rfl (i64sV_get hx1) one2) (JL.mi rfl (JL.g (RX.add rfl rfl (w_i64 (r := 1099511627777) (by decide) (by omega) (by omega))) (JL.g (RX.rem rfl rfl (by decide) (r := cutZ re i) hcz1) (JL.g (RX.indexAddr rfl rfl sl22 (by omega) (by omega) (o' := i) (by omega)) (JL.e (EX.store (v := .int _ _) H rfl rfl (i := 1) rfl rfl (by rw [i64sV_len, cutL_len]; omega) sz2 rfl rfl) ?_)))))))))))
    rintro _ w H
    replace H : Hp w0 w ([(bb, cel (i64sV (cutL im n i)) 2)] :: [(ba, cel ((i64sV (cutL re n i)).set i (.int .i64 (cutZ re i))) 2)] :: [(bx, cel (cxs xs) 49)] :: F) := H
    rw [show (i64sV (cutL re n i)).set i (.int .i64 (cutZ re i)) = i64sV (cutL re n (i + 1)) by rw [← cutL_set hin]; simp [i64sV, List.map_set]] at H
    refine JL.nil ?_
    first
    | exact hk2 () _ _ ⟨rfl, rfl, rfl, rfl, rfl, rfl, rfl, rfl, rfl, trivial⟩ trivial H
    | exact hk2 () _ _ ⟨rfl, rfl, rfl, rfl, rfl, rfl, rfl, rfl, rfl, trivial⟩ trivial (by rw [← cutL_skip (by omega)]; exact H)
   ·
    refine J.skip ?_
    first
    | exact hk2 () _ _ ⟨rfl, rfl, rfl, rfl, rfl, rfl, rfl, rfl, rfl, trivial⟩ trivial H
    | exact hk2 () _ _ ⟨rfl, rfl, rfl, rfl, rfl, rfl, rfl, rfl, rfl, trivial⟩ trivial (by rw [← cutL_skip (by omega)]; exact H)
  ·
   clear H
   rintro _ ρ w H
   refine J.seq (J.seq (J.region (JL.mi rfl (JL.ms rfl (JL.g (RX.len_slice rfl (by rw [sl22]; rfl) rfl) ?_)))))
   refine JL.g (RX.lt rfl rfl) (JL.nil (J.join (ι := Unit) (fun _ => []) (fun _ w => Hp w0 w ([(bb, cel (i64sV (cutL im n (i + 1))) 2)] :: [(ba, cel (i64sV (cutL re n (i + 1))) 2)] :: [(bx, cel (cxs xs) 49)] :: F)) [(0, _), (1, _), (3, _), (11, _), (12, _), (13, _), (14, _), (22, _), (23, _)] ⟨rfl, rfl, rfl, rfl, rfl, rfl, rfl, rfl, rfl, trivial⟩ ?_ ?_))
   rotate_left
   ·
    intro k2 hk2
    refine J.cond_d rfl (fun h43 => ?_) (fun h43 => ?_)
    ·
     have hil2 : i < im.length := by omega
     obtain ⟨x2, hx2⟩ : ∃ x, im[i]? = some x := ⟨_, List.getElem?_eq_getElem hil2⟩
     obtain ⟨pb2, po2, rfl⟩ := spot_some hi_ (by rw [i64sV_len]; omega)
     have hcz2 : x2.tmod 1099511627777 = cutZ im i := by unfold cutZ; rw [hx2]; rfl
     refine J.region (JL.ms rfl (JL.mi rfl (JL.ms rfl (JL.mi rfl (JL.g (RX.indexAddr rfl rfl sl22 (by omega) (by omega) (o' := po2 + i) (by omega)) (JL.g (RX.loadS H hi_.cons.cons.cons rfl (j := i) rfl (i64sV_get hx2) one2) (JL.mi rfl (JL.g (RX.add rfl rfl (w_i64 (r := 1099511627777) (by decide) (by omega) (by omega))) (JL.g (RX.rem rfl rfl (by decide) (r := cutZ im i) hcz2) (JL.g (RX.indexAddr rfl rfl sl22 (by omega) (by omega) (o' := i) (by omega)) (JL.e (EX.store (v := .int _ _) H rfl rfl (i := 0) rfl rfl (by rw [i64sV_len, cutL_len]; omega) sz2 rfl rfl) ?_)))))))))))
     rintro _ w H
     replace H : Hp w0 w ([(bb, cel ((i64sV (cutL im n i)).set i (.int .i64 (cutZ im i))) 2)] :: [(ba, cel (i64sV (cutL re n (i + 1))) 2)] :: [(bx, cel (cxs xs) 49)] :: F) := H
     rw [show (i64sV (cutL im n i)).set i (.int .i64 (cutZ im i)) = i64sV (cutL im n (i + 1)) by rw [← cutL_set hin]; simp [i64sV, List.map_set]] at H
     refine JL.nil ?_
     first
     | exact hk2 () _ _ ⟨rfl, rfl, rfl, rfl, rfl, rfl, rfl, rfl, rfl, trivial⟩ trivial H
     | exact hk2 () _ _ ⟨rfl, rfl, rfl, rfl, rfl, rfl, rfl, rfl, rfl, trivial⟩ trivial (by rw [← cutL_skip (l := im) (by omega)]; exact H)
    ·
     refine J.skip ?_
     first
     | exact hk2 () _ _ ⟨rfl, rfl, rfl, rfl, rfl, rfl, rfl, rfl, rfl, trivial⟩ trivial H
     | exact hk2 () _ _ ⟨rfl, rfl, rfl, rfl, rfl, rfl, rfl, rfl, rfl, trivial⟩ trivial (by rw [← cutL_skip (l := im) (by omega)]; exact H)
   ·
    clear H
    rintro _ ρ w H
    have hga : (i64sV (cutL re n (i + 1)))[i]? = some (.int .i64 (cutZ re i)) := i64sV_get (by rw [cutL_get hin, if_pos (by omega)])
    have hgb : (i64sV (cutL im n (i + 1)))[i]? = some (.int .i64 (cutZ im i)) := i64sV_get (by rw [cutL_get hin, if_pos (by omega)])
    have hxl : xs.length = n := by rw [hz.1, cutZs_len]
    refine J.held (fun w => Hp w0 w ([(bb, cel (i64sV (cutL im n (i + 1))) 2)] :: [(ba, cel (i64sV (cutL re n (i + 1))) 2)] :: F)) hmix fun w hs => ?_
    replace H := H.same hs; clear hs
    have hS : Hp w0 w ([(bb, cel (i64sV (cutL im n (i + 1))) 2)] :: [(ba, cel (i64sV (cutL re n (i + 1))) 2)] :: F) := (H.pull 2 rfl).drop
    refine JH.take 0 rfl (by kernel_rfl) (by kernel_rfl) (by kernel_rfl) rfl trivial (fun w H => RX.movev (v := .slice _ _ _) rfl) hS (JH.take 1 rfl (by kernel_rfl) (by kernel_rfl) (by kernel_rfl) rfl trivial (fun w H => RX.movev (v := .int _ _) rfl) hS (JH.take 2 rfl (by kernel_rfl) (by kernel_rfl) (by kernel_rfl) rfl trivial (fun w H => RX.movev (v := .slice _ _ _) rfl) hS (JH.take 3 rfl (by kernel_rfl) (by kernel_rfl) (by kernel_rfl) rfl trivial (fun w H => RX.movev (v := .int _ _) rfl) hS (JH.take 4 rfl (by kernel_rfl) (by kernel_rfl) (by kernel_rfl) rfl trivial (fun w H => RX.indexAddr rfl rfl sl22 (by omega) (by omega) (o' := i) (by omega)) hS (JH.take 5 rfl (by kernel_rfl) (by kernel_rfl) (by kernel_rfl) rfl trivial (fun w H => RX.load H rfl (i := 1) (v := .int .i64 (cutZ re i)) rfl hga one2) hS (JH.take 6 rfl (by kernel_rfl) (by kernel_rfl) (by kernel_rfl) rfl trivial (fun w H => RX.i2f rfl ud2 ud51) hS (JH.take 7 rfl (by kernel_rfl) (by kernel_rfl) (by kernel_rfl) rfl trivial (fun w H => RX.movev (v := .slice _ _ _) rfl) hS (JH.take 8 rfl (by kernel_rfl) (by kernel_rfl) (by kernel_rfl) rfl trivial (fun w H => RX.movev (v := .int _ _) rfl) hS (JH.take 9 rfl (by kernel_rfl) (by kernel_rfl) (by kernel_rfl) rfl trivial (fun w H => RX.indexAddr rfl rfl sl22 (by omega) (by omega) (o' := i) (by omega)) hS (JH.take 10 rfl (by kernel_rfl) (by kernel_rfl) (by kernel_rfl) rfl trivial (fun w H => RX.load H rfl (i := 0) (v := .int .i64 (cutZ im i)) rfl hgb one2) hS (JH.take 11 rfl (by kernel_rfl) (by kernel_rfl) (by kernel_rfl) rfl trivial (fun w H => RX.i2f rfl ud2 ud51) hS (JH.take 12 rfl (by kernel_rfl) (by kernel_rfl) (by kernel_rfl) rfl trivial (fun w H => RX.complex rfl rfl) hS (JH.take 13 rfl (by kernel_rfl) (by kernel_rfl) (by kernel_rfl) rfl trivial (fun w H => RX.indexAddr rfl rfl sl27 (by omega) (by omega) (o' := i) (by omega)) hS (JH.all [14] (by kernel_rfl) (by decide) (JHO.does rfl rfl trivial (EX.store (v := .complex _ _ _) H rfl rfl (i := 2) rfl rfl (by rw [cxs_len]; omega) sz49 rfl rfl) ?_)))))))))))))))
    rintro _ w H
    have hS : Hp w0 w ([(bb, cel (i64sV (cutL im n (i + 1))) 2)] :: [(ba, cel (i64sV (cutL re n (i + 1))) 2)] :: F) := (H.pull 2 rfl).drop
    refine ⟨hS, ?_⟩
    refine JH.done (by kernel_rfl) (J.inBlock (J.region (JL.g (RX.add rfl rfl (wi (n := i + 1) (by omega) (by omega))) (JL.mi rfl (JL.nil ?_)))))
    replace H : Hp w0 w ([(bb, cel (i64sV (cutL im n (i + 1))) 2)] :: [(ba, cel (i64sV (cutL re n (i + 1))) 2)] :: [(bx, cel ((cxs xs).set i (.complex .f64 (fint (cutZ re i)) (fint (cutZ im i)))) 49)] :: F) := H
    rw [← cxs_set (c := (fint (cutZ re i), fint (cutZ im i)))] at H
    have hr1 := cutZ_le re i
    have hr2 := cutZ_le im i
    exact IH (i + 1, xs.set i (fint (cutZ re i), fint (cutZ im i))) _ _ (by simp only; omega) ⟨rfl, rfl, rfl, rfl, rfl, rfl, rfl, trivial⟩ ⟨rfl, trivial⟩ ⟨by simp only; omega, hz.set (z := (cutZ re i, cutZ im i)) (by unfold cutZs; rw [List.getElem?_map, List.getElem?_range hin]; rfl) ⟨isZ_fint (by omega), isZ_fint (by omega)⟩, H⟩
 ·
  obtain rfl : i = n := by omega
  refine J.exit rfl (J.seq (J.region (JL.ms rfl (JL.ms rfl (JL.ms rfl (JL.al rfl (JL.al rfl (JL.al rfl (JL.nil (J.ret3 (v := .slice _ _ _) (x := Value.slice _ _ _) (y := Value.slice _ _ _) Tryz.func5 rfl rfl rfl rfl ?_))))))))))
  exact ⟨_, rfl, bx, ba, bb, xs, rfl, ZI.full (by rw [cutZs_len]; exact hz), H⟩
theorem parts_b {w0 w : World} {F : List Seg} (H : Hp w0 w F) {ys : List (Nat × Nat)} {zs : List (Int × Int)} {u v : List Int} {py pu pv : Option Addr} {cy cu cv n : Nat} (hn : n = zs.length) (hnl : n ≤ 1000) (hy : SlAt F py (cxs ys)) (hsu : SlAt F pu (i64sV u)) (hsv : SlAt F pv (i64sV v)) (hz : ZL ys zs) (hu : u = zre zs) (hv : v = zim zs) (hb : ∀ z ∈ zs, z.1.natAbs < 9007199254740992 ∧ z.2.natAbs < 9007199254740992) : Ret Tryz.prog 11 [.slice py n cy, .slice pu n cu, .slice pv n cv] w fun r w' => r = .bool true ∧ Hp w0 w' F := by
 refine Calls.of_J (n := 50) Tryz.func11 rfl rfl rfl (J.seq (J.region (JL.g (RX.assign) (JL.nil (J.seq (J.seq ?_))))))
 have hyl := hz.1
 have hul : u.length = zs.length := by rw [hu]; simp [zre]
 have hvl : v.length = zs.length := by rw [hv]; simp [zim]
 obtain rfl : n = zs.length := hn
 refine J.region (JL.ms rfl (JL.g (RX.len_slice rfl (by rw [sl27]; rfl) rfl) ?_))
 refine JL.ms rfl (JL.g (RX.len_slice rfl (by rw [sl22]; rfl) rfl) ?_)
 refine JL.g (RX.ne rfl rfl) (JL.mb rfl (JL.go ⟨_, rfl, (decide_eq_false (by omega))⟩ (RX.movev (v := .slice _ _ _) rfl) (JL.go ⟨_, rfl, (decide_eq_false (by omega))⟩ (RX.len_slice rfl (by rw [sl27]; rfl) rfl) ?_)))
 refine JL.go ⟨_, rfl, (decide_eq_false (by omega))⟩ (RX.movev (v := .slice _ _ _) rfl) (JL.go ⟨_, rfl, (decide_eq_false (by omega))⟩ (RX.len_slice rfl (by rw [sl22]; rfl) rfl) ?_)
 refine JL.go ⟨_, rfl, (decide_eq_false (by omega))⟩ (RX.ne rfl rfl) (JL.g (RX.pick_f rfl (decide_eq_false (by omega))) (JL.nil (J.cond_f rfl (decide_eq_false (by omega)) (J.skip (J.seq (J.seq (J.region (JL.ms rfl (JL.g (RX.len_slice rfl (by rw [sl27]; rfl) rfl) ?_)))))))))
 refine JL.g (RX.move) (JL.nil (J.block (J.loop (ι := Nat) (S := fun i => [(22, .int .i64 ((i : Nat) : Int))]) (Φ := fun i w => i ≤ zs.length ∧ Hp w0 w F) (μ := fun i => zs.length - i) (C := [(0, _), (1, _), (2, _), (21, _)]) 0 ⟨rfl, rfl, rfl, rfl, trivial⟩ ⟨rfl, trivial⟩ ?_ ?_)))
 · exact ⟨by omega, H⟩
 clear H
 rintro i ρ w ⟨hi, H⟩ IH
 refine J.seq (J.region (JL.g (RX.lt rfl rfl) (JL.nil (J.seq (J.cond_d rfl (fun hlt => ?_) (fun hlt => ?_))))))
 ·
  have hil : i < zs.length := by omega
  obtain ⟨z, hzi⟩ : ∃ z, zs[i]? = some z := ⟨_, List.getElem?_eq_getElem hil⟩
  obtain ⟨fl, hf, hfz⟩ := hz.2 i z hzi
  have hui : u[i]? = some z.1 := by rw [hu]; simp [zre, hzi]
  have hvi : v[i]? = some z.2 := by rw [hv]; simp [zim, hzi]
  obtain ⟨yb, yo, rfl⟩ := spot_some hy (by rw [cxs_len]; omega)
  obtain ⟨ub, uo, rfl⟩ := spot_some hsu (by rw [i64sV_len]; omega)
  obtain ⟨vb, vo, rfl⟩ := spot_some hsv (by rw [i64sV_len]; omega)
  obtain ⟨hb1, hb2⟩ := hb z (List.mem_of_getElem? hzi)
  have he1 : (FloatKind.f64.format.order fl.1 (fint z.1) != some .eq) = false := by
    have := isZ_eq hfz.1 (isZ_fint hb1)
    simp only [bne, this, Bool.not_true]
  have he2 : (FloatKind.f64.format.order fl.2 (fint z.2) != some .eq) = false := by
    have := isZ_eq hfz.2 (isZ_fint hb2)
    simp only [bne, this, Bool.not_true]
  refine J.skip (J.seq (J.block (J.seq (J.region (JL.mi rfl (JL.ai rfl (JL.nil (J.seq (J.quietH H hmix (by kernel_rfl) (JQ.g (fun w H => RX.movev (v := .slice _ _ _) rfl) (JQ.g (fun w H => RX.movev (v := .int _ _) rfl) (JQ.g (fun w H => RX.indexAddr rfl rfl sl27 (by omega) (by omega) (o' := yo + i) (by omega)) (JQ.g (fun w H => RX.loadS H hy rfl (j := i) rfl (cxs_get hf) one49) (JQ.g (fun w H => RX.real rfl) (JQ.g (fun w H => RX.movev (v := .slice _ _ _) rfl) (JQ.g (fun w H => RX.movev (v := .int _ _) rfl) (JQ.g (fun w H => RX.indexAddr rfl rfl sl22 (by omega) (by omega) (o' := uo + i) (by omega)) (JQ.g (fun w H => RX.loadS H hsu rfl (j := i) rfl (i64sV_get hui) one2) (JQ.g (fun w H => RX.i2f rfl ud2 ud51) (JQ.g (fun w H => RX.fne rfl rfl) (JQ.g (fun w H => RX.movev (v := .bool _) rfl) (JQ.go ⟨_, rfl, he1⟩ (fun w H => RX.movev (v := .slice _ _ _) rfl) (JQ.go ⟨_, rfl, he1⟩ (fun w H => RX.movev (v := .int _ _) rfl) (JQ.go ⟨_, rfl, he1⟩ (fun w H => RX.indexAddr rfl rfl sl27 (by omega) (by omega) (o' := yo + i) (by omega)) (JQ.go ⟨_, rfl, he1⟩ (fun w H => RX.loadS H hy rfl (j := i) rfl (cxs_get hf) one49) (JQ.go ⟨_, rfl, he1⟩ (fun w H => RX.imag rfl) (JQ.go ⟨_, rfl, he1⟩ (fun w H => RX.movev (v := .slice _ _ _) rfl) (JQ.go ⟨_, rfl, he1⟩ (fun w H => RX.movev (v := .int _ _) rfl) (JQ.go ⟨_, rfl, he1⟩ (fun w H => RX.indexAddr rfl rfl sl22 (by omega) (by omega) (o' := vo + i) (by omega)) (JQ.go ⟨_, rfl, he1⟩ (fun w H => RX.loadS H hsv rfl (j := i) rfl (i64sV_get hvi) one2) (JQ.go ⟨_, rfl, he1⟩ (fun w H => RX.i2f rfl ud2 ud51) (JQ.go ⟨_, rfl, he1⟩ (fun w H => RX.fne rfl rfl) (JQ.g (fun w H => RX.pick_f rfl he1) (JQ.nil fun w H => (J.cond_f rfl he2 (J.skip (J.inBlock (J.region (JL.g (RX.add rfl rfl (wi (n := i + 1) (by omega) (by omega))) (JL.mi rfl (JL.nil ?_)))))))))))))))))))))))))))))))))))))))))
  exact IH (i + 1) _ _ (by omega) ⟨rfl, rfl, rfl, rfl, trivial⟩ ⟨rfl, trivial⟩ ⟨by omega, H⟩
 ·
  refine J.exit rfl (J.seq (J.region (JL.g (RX.assign) (JL.nil (J.ret1 (v := .bool _) Tryz.func11 rfl rfl ?_)))))
  exact ⟨_, rfl, rfl, H⟩
def BlueC (t : Tr) : Prop := ∀ (w0 w : World) (F : List Seg) (vs : List Value), Hp w0 w F → t.Is F vs → Ret Tryz.prog 8 [.agg vs.toArray] w fun v w' => v = .bool false ∧ Hp w0 w' F
theorem blue_step {k n : Int} {ks : List Tr} (ih : ∀ t ∈ ks, BlueC t) (h4 : k ≠ 4) (hkl : ks.length ≤ 2) {w0 w : World} {F : List Seg} (H : Hp w0 w F) {p : Option Addr} {c : Nat} {xs : List Value} (hs : SlAt F p xs) (hk : KidsIs F ks xs) : Ret Tryz.prog 8 [.agg (tv k n p ks.length c).toArray] w fun v w' => v = .bool false ∧ Hp w0 w' F := by
 refine Calls.of_J (n := 18) Tryz.func8 rfl rfl rfl (J.seq (J.region (JL.e (EX.box (v := .agg _) H rfl rfl) ?_)))
 rintro _ w ⟨b1, rfl, H⟩
 refine JL.ab rfl (JL.nil (J.seq (J.seq (J.region (JL.g (RX.fieldAddr rfl fo39_0 rfl) (JL.g (RX.load H rfl (i := 0) (v := .int _ _) rfl rfl one3) (JL.g (RX.eq rfl rfl) (JL.nil (J.cond_f rfl (decide_eq_false h4) (J.skip (J.seq (J.seq (J.region (JL.g (RX.fieldAddr rfl fo39_2 rfl) (JL.g (RX.load H rfl (i := 0) (v := .slice p ks.length c) rfl rfl one37) (JL.g (RX.len_slice rfl (by rw [sl37]; rfl) rfl) ?_))))))))))))))))
 refine JL.g (RX.move) (JL.nil (J.block (J.loop (ι := Nat) (S := fun i => [(11, .int .i64 ((i : Nat) : Int))]) (Φ := fun i w => i ≤ ks.length ∧ Hp w0 w ([(b1, cel (tv k n p ks.length c) 39)] :: F)) (μ := fun i => ks.length - i) (C := [(9, _), (10, _)]) 0 ⟨rfl, rfl, trivial⟩ ⟨rfl, trivial⟩ ?_ ?_)))
 · exact ⟨by omega, H⟩
 clear H
 rintro i ρ w ⟨hi, H⟩ IH
 refine J.seq (J.region (JL.g (RX.lt rfl rfl) (JL.nil (J.seq (J.cond_d rfl (fun hlt => ?_) (fun hlt => ?_))))))
 ·
  have hil : i < ks.length := by omega
  obtain ⟨t1, ht1⟩ : ∃ t1, ks[i]? = some t1 := ⟨_, List.getElem?_eq_getElem hil⟩
  obtain ⟨a1, ha1, hi1⟩ := hk.get ht1
  obtain ⟨k1, n1, p1, m1, c1, rfl⟩ := hi1.shape
  have hxl := hk.len
  obtain ⟨pb, po, rfl⟩ := spot_some hs (by omega)
  refine J.skip (J.seq (J.block (J.seq (J.region (JL.g (RX.indexAddr rfl rfl sl37 (by omega) (by omega) (o' := po + i * 3) (by omega)) (JL.g (RX.loadAggS H hs.cons rfl (j := i * 3) (by omega) (vs := tv k1 n1 p1 m1 c1) ha1 ag39) (JL.e (EX.alloc H zr39 rfl) ?_)))))))
  rintro _ w ⟨b4, rfl, H⟩
  refine JL.e (EX.storeAgg H rfl rfl (i := 0) (vs := tv k1 n1 p1 m1 c1) (l' := tv k1 n1 p1 m1 c1) rfl tv_cell (by simp) sz39 rfl rfl) ?_
  rintro _ w H
  refine JL.nil (J.seq (J.region (JL.g (RX.loadAgg H rfl (i := 0) (vs := tv k1 n1 p1 m1 c1) rfl rfl ag39) (JL.e (EX.call rfl cl8 rfl ((ih t1 (List.mem_of_getElem? ht1) _ _ _ _ H hi1.cons.cons))) ?_))))
  rintro _ w ⟨rfl, H⟩
  refine JL.nil (J.cond_f rfl rfl (J.skip (J.inBlock (J.region (JL.g (RX.add rfl rfl (wi (n := i + 1) (by omega) (by omega))) (JL.mi rfl (JL.nil ?_)))))))
  exact IH (i + 1) _ _ (by omega) ⟨rfl, rfl, trivial⟩ ⟨rfl, trivial⟩ ⟨by omega, H.drop⟩
 ·
  refine J.exit rfl (J.seq (J.region (JL.g (RX.assign) (JL.nil (J.ret1 (v := .bool _) Tryz.func8 rfl rfl ?_)))))
  exact ⟨_, rfl, rfl, H.drop⟩
theorem blue_node {k n : Int} {ks : List Tr} (ih : ∀ t ∈ ks, BlueC t) (h4 : k ≠ 4) (hkl : ks.length ≤ 2) : BlueC (.node k n ks) := by
 intro w0 w F vs H ht
 rw [Tr.Is] at ht
 obtain ⟨p, c, xs, rfl, hs, hk⟩ := ht
 exact blue_step ih h4 hkl H hs hk
theorem blue_b (o : Od) : BlueC o.tr := by
 have hl : ∀ f m, BlueC (.node (kf f) m []) := fun f m => blue_node (fun t h => by cases h) (by cases f <;> decide) (by simp)
 cases o with
 | lf f m => exact hl f _
 | tt fa fb =>
   refine blue_node (fun t h => ?_) (by decide) (by simp)
   rcases List.mem_cons.1 h with rfl | h
   · exact hl fa 2
   · obtain rfl := List.mem_singleton.1 h
     exact hl fb 2
end Oo
end Go.Proofs.YtfaokllgaambjaaGreatDoor
