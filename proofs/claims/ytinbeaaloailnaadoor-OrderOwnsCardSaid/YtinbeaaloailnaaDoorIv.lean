/- The law's list of leaves. -/
import Derived.Test.YtinbeaaloailnaaDoorIt
import Derived.Test.YtinbeaaloailnaaDoorRn
namespace Go.Proofs.YtinbeaaloailnaaDoor
open Go Go.Eng
set_option maxRecDepth 100000
set_option linter.unusedVariables false
set_option linter.unusedSimpArgs false
theorem cl42 : callable Tryd.prog 42 = true := by kernel_rfl
theorem cl51 : callable Tryd.prog 51 = true := by kernel_rfl
theorem zr23 : (Tryd.prog.info? 23).bind (·.zero) = some (.slice none 0 0) := by kernel_rfl

section
variable {P : Program} {w w0 : World} {L : List Seg} {ρ : Operand → Value} {d : Option Tmp} {x y : Operand} {ty : TypeId} {pos : String} {af : Array Edge} {g : Option (Nat × Bool)}
def isFuncT (P : Program) (t : TypeId) : Bool := match P.underlying t with | some (.func ..) => true | _ => false
theorem RX.funcnil_eql {t t' : TypeId} {fn : Fn} {u z : Array Value} (hx : ρ x = .func fn u z) (hy : ρ y = .nilFunc) (ht : isFuncT P t = true) : Runs P ρ ⟨d, .binOp .eql t x y t', ty, pos, af, g⟩ w (.bool false) := by
  have hu : ∃ a b c, P.underlying t = some (.func a b c) := by
    unfold isFuncT at ht
    split at ht
    · rename_i a b c h
      exact ⟨a, b, c, h⟩
    · cases ht
  obtain ⟨a, b, c, hu⟩ := hu
  have h0 : (Op.equal t (.func fn u z) .nilFunc).run P w = .ok false w := by
    unfold Op.equal Op.maxDepth Op.equalIn
    simp only [Sem.run_bind, run_underlying hu, Result.andThen_ok]
    rfl
  have h1 : (binOp .eql t (.func fn u z) .nilFunc).run P w = .ok (.bool false) w := by
    simp only [binOp]; simp [h0]
  unfold Runs
  simp [execOp, hx, hy, eqGuard_at_func, h1]
theorem results_cc {n : Nat} {D : List Deferred} {σ : Env} {fn : Func} {a t u tu b2 b3 i j T2 T3 : Nat} {x y : Value} {ac : Act} (ha : Ag D n σ ac) (h : fn.results = #[.cell a t, .cell u tu])
    (hp2 : ev n σ (.tmp a) = .pointer (some ⟨b2, 0, none⟩)) (hp3 : ev n σ (.tmp u) = .pointer (some ⟨b3, 0, none⟩)) (H : Hp w0 w L)
    (hi : L[i]? = some [(b2, cel [x] T2)]) (hj : L[j]? = some [(b3, cel [y] T3)]) (ht : oneOf P t = true) (hu : oneOf P tu = true) : (results fn ac.tmps).run P w = .ok (.tuple #[x, y]) w := by
  have h1 := ha.tmp a
  have h2 := ha.tmp u
  rw [hp2, Array.getD_eq_getD_getElem?] at h1
  rw [hp3, Array.getD_eq_getD_getElem?] at h2
  have e1 := run_loadOne (P := P) H hi ht
  have e2 := run_loadOne (P := P) H hj hu
  simp [results, h, h1, h2, asAddr, e1, e2]
end
theorem hp_front {w0 W : World} {s : Seg} {X G F : List Seg} (H : Hp w0 W (s :: (X ++ (G ++ F)))) : Hp w0 W (G ++ (s :: (X ++ F))) := perm_of_flatten H (by
  simp only [List.flatten_cons, List.flatten_append]
  exact ((List.perm_append_comm_assoc _ _ _).append_left s).trans (List.perm_append_comm_assoc _ _ _))
theorem hp_back {w0 W : World} {X G F : List Seg} (H : Hp w0 W (G ++ (X ++ F))) : Hp w0 W (X ++ (G ++ F)) := perm_of_flatten H (by
  simp only [List.flatten_append]
  exact List.perm_append_comm_assoc _ _ _)
/-- What the law keeps from round to round: the loop's record, its block, the box of out, its cells and what lies below them. -/
def Acc (l r b4 : Nat) (o : Obj) (xs : List Tr) (G : List Seg) : Prop := ∃ (p : Option Addr) (c : Nat) (ys : List Value) (sl ss : Seg), G = [[(l, o)], [(r, Obj.deferred (some []))], [(b4, cel [.slice p xs.length c] 23)], sl, ss] ∧ OwnSl 25 3 p xs.length c ys sl ∧ KidsOwn xs ys ss

set_option maxHeartbeats 1600000 in
theorem lawLeaves_b {w0 w : World} {F : List Seg} {vs : List Value} {t : Tr} (hp : t.parts ≤ 4500) (ht : t.Is F vs) (H : Hp w0 w F) : Ret Tryd.prog 23 [.agg vs.toArray] w fun v w' => ∃ p c ys sl ss, v = .tuple #[.slice p t.lvs.length c, .bool true] ∧ OwnSl 25 3 p t.lvs.length c ys sl ∧ KidsOwn t.lvs ys ss ∧ Hp w0 w' (sl :: ss :: F) := by
  refine Calls.of_J (n := 26) Tryd.func23 rfl rfl rfl ?_
  refine J.seq ?_
  obtain ⟨k, n, p, m, c, rfl⟩ := ht.shape
  refine J.region ?_
  refine JL.does trivial (EX.box (v := Value.agg _) H rfl rfl) ?_
  rintro _ w ⟨b1, rfl, H⟩
  refine JL.does trivial (EX.alloc H zr23 rfl) ?_
  rintro _ w ⟨b2, rfl, H⟩
  refine JL.does trivial (EX.alloc H zr4 rfl) ?_
  rintro _ w ⟨b3, rfl, H⟩
  refine JL.nil ?_
  refine J.seq ?_
  refine J.region ?_
  refine JL.does trivial (EX.buildSlice0 H elO) ?_
  rintro _ w ⟨bo, rfl, H⟩
  refine JL.does trivial (EX.alloc H zr23 rfl) ?_
  rintro _ w ⟨b4, rfl, H⟩
  refine JL.does trivial (EX.store (v := Value.slice _ _ _) H rfl rfl (i := 0) (l' := [.slice (some ⟨bo, 0, none⟩) 0 0]) rfl rfl (by simp) sz23 rfl rfl) ?_
  rintro _ w H
  refine JL.nil ?_
  refine J.seq ?_
  refine J.region ?_
  refine JL.go trivial (RX.loadAgg H rfl (i := 4) (vs := tv k n p m c) rfl rfl ag25) ?_
  refine JL.does trivial (EX.call rfl cl42 rfl ((Leaves_b (by omega) (Tr.Is.cons (Tr.Is.cons (Tr.Is.cons (Tr.Is.cons (Tr.Is.cons ht))))) H))) ?_
  rintro _ w ⟨vs1, s1, bt, rfl, ho1, H⟩
  obtain ⟨k1, n1, p1, m1, c1, rfl⟩ := ho1.shape
  refine JL.go trivial (RX.assignv (v := Value.func _ _ _) rfl) ?_
  refine JL.nil ?_
  refine J.seq ?_
  refine J.seq ?_
  refine J.region ?_
  refine JL.go trivial (RX.movev (v := Value.func _ _ _) rfl) ?_
  refine JL.go trivial (RX.funcnil_eql (fn := _) (u := _) (z := _) rfl rfl (by kernel_rfl)) ?_
  refine JL.nil ?_
  refine J.cond_f rfl rfl ?_
  refine J.skip ?_
  refine J.seq ?_
  refine J.seq ?_
  refine J.region ?_
  refine JL.go trivial (RX.movev (v := Value.func _ _ _) rfl) ?_
  refine JL.nil ?_
  refine J.block ?_
  have hlen := lvs_len _ t (Nat.le_refl _)
  refine J.rangeFunc (fv := []) (cv := [.pointer (some ⟨bt, 0, none⟩)]) H rfl cl51 rfl ?_
  generalize hasg : (Code.region 6 _ false) = asg
  generalize hbdy : (Code.block 1 _) = bdy
  rintro r l a w1 hl ha H
  have hY : YOK l (Acc l r b4 (loopObj .ready 23 a.tmps #[14] asg bdy r)) w0 5000 ([(b3, cel [.bool false] 4)] :: [(b2, cel [.slice none 0 0] 23)] :: [(b1, cel (tv k n p m c) 25)] :: F) := by
    rintro xs _ X w t2 vs2 s2 ⟨p2, c2, ys, sl, ss, rfl, ho, hk⟩ hx hot H
    obtain ⟨kt, nt, pt, mt, ct, rfl⟩ := hot.shape
    replace H := hp_front H
    have hfin : ∀ (p2 : Option Addr) (c2 : Nat) (ys : List Value) (sl ss : Seg), OwnSl 25 3 p2 xs.length c2 ys sl → KidsOwn xs ys ss → ∀ (g3 c3 : Nat) (l3 : List Value), OwnSl 25 3 (some ⟨g3, 0, none⟩) (xs.length + 1) c3 (ys ++ tv 0 0 none 0 0) [(g3, cel l3 25)] → Acc l r b4 (loopObj .ready 23 a.tmps #[14] asg bdy r) (xs ++ [t2]) [[(l, loopObj .ready 23 a.tmps #[14] asg bdy r)], [(r, Obj.deferred (some []))], [(b4, cel [.slice (some ⟨g3, 0, none⟩) (xs.length + 1) c3] 23)], [(g3, cel (setN l3 (xs.length * 3) (tv kt nt pt mt ct)) 25)], ss ++ s2] := by
      intro p2 c2 ys sl ss ho hk g3 c3 l3 ho3
      have hyl := ho.1
      have h1 := OwnSl.top ho3 rfl (va := tv kt nt pt mt ct) rfl
      rw [hyl] at h1
      exact ⟨some ⟨g3, 0, none⟩, c3, _, _, _, by rw [List.length_append]; rfl, by rw [List.length_append]; exact h1, hk.snoc hot⟩
    refine yield_round H (i := 0) rfl ha ?_
    refine FC.code hasg ?_
    refine FC.region ?_
    refine FL.does (fair_round l) rfl trivial (EX.alloc H zr25 rfl) ?_
    rintro _ w ⟨b6, rfl, H⟩
    refine FL.does (fair_round l) rfl trivial (EX.storeAgg H rfl rfl (i := 0) (vs := tv kt nt pt mt ct) (l' := tv kt nt pt mt ct) rfl tv_cell (by simp) sz25 rfl rfl) ?_
    rintro _ w H
    refine FL.nil ?_
    intro a1 ha1
    refine ⟨_, run_beginRound (H.get1 (i := 1) rfl) rfl, ?_⟩
    replace H := H.putObj (i := 1) (o' := loopObj .busy 23 a.tmps #[14] asg bdy r) rfl
    replace H : Hp w0 _ ([(b6, cel (tv kt nt pt mt ct) 25)] :: [(l, loopObj .busy 23 a.tmps #[14] asg bdy r)] :: [(r, Obj.deferred (some []))] :: [(b4, cel [.slice p2 xs.length c2] 23)] :: sl :: ss :: s2 :: (X ++ ([(b3, cel [.bool false] 4)] :: [(b2, cel [.slice none 0 0] 23)] :: [(b1, cel (tv k n p m c) 25)] :: F))) := H
    refine (?_ : FC (Fence.wide.inRound l) [] Tryd.prog 26 _ _ _ _) a1 ha1
    refine FC.code hbdy ?_
    refine FC.block ?_
    refine FC.seq ?_
    refine FC.any hmix fun w hs => ?_
    replace H := H.same hs; clear hs
    refine FA.all [0, 1, 3] (by kernel_rfl) (by decide) ?_
    refine ⟨?_, ?_, ?_⟩
    · skip
      refine FO.go (listed' := [true, false, false, false, false, false, false, false]) (fair_round l) rfl rfl rfl trivial (by first | exact RX.load H rfl (i := 3) (v := .slice p2 xs.length c2) rfl rfl one23 | exact RX.load H rfl (i := 4) (v := .slice p2 xs.length c2) rfl rfl one23) ?_
      refine FA.all [1, 2, 3] (by kernel_rfl) (by decide) ?_
      refine ⟨?_, ?_, ?_⟩
      · skip
        refine FO.go (listed' := [true, true, false, false, false, false, false, false]) (fair_round l) rfl rfl rfl trivial (by first | exact RX.loadAgg H rfl (i := 0) (vs := tv kt nt pt mt ct) rfl rfl ag25 | exact RX.loadAgg H rfl (i := 1) (vs := tv kt nt pt mt ct) rfl rfl ag25) ?_
        refine FA.all [2, 3] (by kernel_rfl) (by decide) ?_
        refine ⟨?_, ?_⟩
        · skip
          refine FO.go (listed' := [true, true, true, false, false, false, false, false]) (fair_round l) rfl rfl rfl trivial (RX.len_slice rfl (by rw [sl23]; rfl) rfl) ?_
          refine FA.all [3] (by kernel_rfl) (by decide) ?_
          refine FO.does (listed' := [true, true, true, true, false, false, false, false]) (fair_round l) rfl rfl rfl trivial (EX.buildSlice (pv := [(0, .agg (tv 0 0 none 0 0).toArray)]) (l := tv 0 0 none 0 0) (e := 25) H rfl (by kernel_rfl)) ?_
          rintro _ w ⟨bz, rfl, H⟩
          refine FA.all [4] (by kernel_rfl) (by decide) ?_
          refine FO.does (listed' := [true, true, true, true, true, false, false, false]) (fair_round l) rfl rfl rfl trivial (EX.append (ys := tv 0 0 none 0 0) (L' := fun s' => [(bz, cel (tv 0 0 none 0 0) 25)] :: [(b6, cel (tv kt nt pt mt ct) 25)] :: [(l, loopObj .busy 23 a.tmps #[14] asg bdy r)] :: [(r, Obj.deferred (some []))] :: [(b4, cel [.slice p2 xs.length c2] 23)] :: s' :: ss :: s2 :: (X ++ ([(b3, cel [.bool false] 4)] :: [(b2, cel [.slice none 0 0] 23)] :: [(b1, cel (tv k n p m c) 25)] :: F))) H elO rfl rfl (i := 5) rfl ho (SlAt.here rfl) rfl tv_cell (by decide) (by omega) (by omega) (fun _ => rfl)) ?_
          rintro _ w ⟨p3, c3, sl3, rfl, ho3, H⟩
          obtain ⟨g3, l3, rfl, rfl, hn3, hl3, ht3⟩ := ho3.ptr (by omega)
          refine FA.all [5, 7] (by kernel_rfl) (by decide) ?_
          refine ⟨?_, ?_⟩
          · skip
            refine FO.go (listed' := [true, true, true, true, true, true, false, false]) (fair_round l) rfl rfl rfl trivial (RX.indexAddr rfl rfl sl23 (by omega) (by omega) (o' := xs.length * 3) (by omega)) ?_
            refine FA.all [6, 7] (by kernel_rfl) (by decide) ?_
            refine ⟨?_, ?_⟩
            · skip
              refine FO.does (listed' := [true, true, true, true, true, true, true, false]) (fair_round l) rfl rfl rfl trivial (EX.storeAgg H rfl rfl (i := 5) (vs := tv kt nt pt mt ct) (l' := setN l3 (xs.length * 3) (tv kt nt pt mt ct)) rfl tv_cell (by simp only [List.length_cons, List.length_nil]; omega) sz25 rfl rfl) ?_
              rintro _ w H
              refine FA.all [7] (by kernel_rfl) (by decide) ?_
              refine FO.does (listed' := [true, true, true, true, true, true, true, true]) (fair_round l) rfl rfl rfl trivial (EX.store (v := Value.slice _ _ _) H rfl rfl (i := 4) (l' := [.slice (some ⟨g3, 0, none⟩) (xs.length + 1) c3]) rfl rfl (by simp) sz23 rfl rfl) ?_
              rintro _ w H
              refine FA.done (by kernel_rfl) ?_
              intro a2 ha2
              refine (?_ : FC (Fence.wide.inRound l) [] Tryd.prog 26 _ _ _ _) a2 ha2
              replace H : Hp w0 _ ([(l, loopObj .busy 23 a.tmps #[14] asg bdy r)] :: [(r, Obj.deferred (some []))] :: [(b4, cel [.slice (some ⟨g3, 0, none⟩) (xs.length + 1) c3] 23)] :: [(g3, cel (setN l3 (xs.length * 3) (tv kt nt pt mt ct)) 25)] :: ss :: s2 :: (X ++ ([(b3, cel [.bool false] 4)] :: [(b2, cel [.slice none 0 0] 23)] :: [(b1, cel (tv k n p m c) 25)] :: F))) := H.drop.drop
              refine FC.seq ?_
              refine FC.region ?_
              refine FL.go (fair_round l) rfl trivial (RX.load H rfl (i := 2) (v := .slice (some ⟨g3, 0, none⟩) (xs.length + 1) c3) rfl rfl one23) ?_
              refine FL.go (fair_round l) rfl trivial (RX.len_slice rfl (by rw [sl23]; rfl) rfl) ?_
              refine FL.go (fair_round l) rfl trivial (RX.gt rfl rfl) ?_
              refine FL.nil ?_
              intro a3 ha3
              refine (?_ : FC (Fence.wide.inRound l) [] Tryd.prog 26 _ _ _ _) a3 ha3
              refine FC.cond_f (congrArg Value.bool (decide_eq_false (by omega))) ?_
              refine FC.skip fun a4 ha4 => ?_
              refine ⟨_, _, run_endRound none (H.get1 (i := 0) rfl), _, rfl, rfl, _, hfin p2 c2 ys sl ss ho hk g3 c3 l3 ho3, ?_⟩
              replace H := H.putObj (i := 0) (o' := loopObj .ready 23 a.tmps #[14] asg bdy r) rfl
              exact hp_back (G := [_, _, _, _, _]) ((((((((H.pull 5 rfl).pull 5 rfl).join).pull 4 rfl).pull 4 rfl).pull 4 rfl).pull 4 rfl))
            · skip
              refine FO.does (listed' := [true, true, true, true, true, true, false, true]) (fair_round l) rfl rfl rfl trivial (EX.store (v := Value.slice _ _ _) H rfl rfl (i := 4) (l' := [.slice (some ⟨g3, 0, none⟩) (xs.length + 1) c3]) rfl rfl (by simp) sz23 rfl rfl) ?_
              rintro _ w H
              refine FA.all [6] (by kernel_rfl) (by decide) ?_
              refine FO.does (listed' := [true, true, true, true, true, true, true, true]) (fair_round l) rfl rfl rfl trivial (EX.storeAgg H rfl rfl (i := 5) (vs := tv kt nt pt mt ct) (l' := setN l3 (xs.length * 3) (tv kt nt pt mt ct)) rfl tv_cell (by simp only [List.length_cons, List.length_nil]; omega) sz25 rfl rfl) ?_
              rintro _ w H
              refine FA.done (by kernel_rfl) ?_
              intro a2 ha2
              refine (?_ : FC (Fence.wide.inRound l) [] Tryd.prog 26 _ _ _ _) a2 ha2
              replace H : Hp w0 _ ([(l, loopObj .busy 23 a.tmps #[14] asg bdy r)] :: [(r, Obj.deferred (some []))] :: [(b4, cel [.slice (some ⟨g3, 0, none⟩) (xs.length + 1) c3] 23)] :: [(g3, cel (setN l3 (xs.length * 3) (tv kt nt pt mt ct)) 25)] :: ss :: s2 :: (X ++ ([(b3, cel [.bool false] 4)] :: [(b2, cel [.slice none 0 0] 23)] :: [(b1, cel (tv k n p m c) 25)] :: F))) := H.drop.drop
              refine FC.seq ?_
              refine FC.region ?_
              refine FL.go (fair_round l) rfl trivial (RX.load H rfl (i := 2) (v := .slice (some ⟨g3, 0, none⟩) (xs.length + 1) c3) rfl rfl one23) ?_
              refine FL.go (fair_round l) rfl trivial (RX.len_slice rfl (by rw [sl23]; rfl) rfl) ?_
              refine FL.go (fair_round l) rfl trivial (RX.gt rfl rfl) ?_
              refine FL.nil ?_
              intro a3 ha3
              refine (?_ : FC (Fence.wide.inRound l) [] Tryd.prog 26 _ _ _ _) a3 ha3
              refine FC.cond_f (congrArg Value.bool (decide_eq_false (by omega))) ?_
              refine FC.skip fun a4 ha4 => ?_
              refine ⟨_, _, run_endRound none (H.get1 (i := 0) rfl), _, rfl, rfl, _, hfin p2 c2 ys sl ss ho hk g3 c3 l3 ho3, ?_⟩
              replace H := H.putObj (i := 0) (o' := loopObj .ready 23 a.tmps #[14] asg bdy r) rfl
              exact hp_back (G := [_, _, _, _, _]) ((((((((H.pull 5 rfl).pull 5 rfl).join).pull 4 rfl).pull 4 rfl).pull 4 rfl).pull 4 rfl))
          · skip
            refine FO.does (listed' := [true, true, true, true, true, false, false, true]) (fair_round l) rfl rfl rfl trivial (EX.store (v := Value.slice _ _ _) H rfl rfl (i := 4) (l' := [.slice (some ⟨g3, 0, none⟩) (xs.length + 1) c3]) rfl rfl (by simp) sz23 rfl rfl) ?_
            rintro _ w H
            refine FA.all [5] (by kernel_rfl) (by decide) ?_
            refine FO.go (listed' := [true, true, true, true, true, true, false, true]) (fair_round l) rfl rfl rfl trivial (RX.indexAddr rfl rfl sl23 (by omega) (by omega) (o' := xs.length * 3) (by omega)) ?_
            refine FA.all [6] (by kernel_rfl) (by decide) ?_
            refine FO.does (listed' := [true, true, true, true, true, true, true, true]) (fair_round l) rfl rfl rfl trivial (EX.storeAgg H rfl rfl (i := 5) (vs := tv kt nt pt mt ct) (l' := setN l3 (xs.length * 3) (tv kt nt pt mt ct)) rfl tv_cell (by simp only [List.length_cons, List.length_nil]; omega) sz25 rfl rfl) ?_
            rintro _ w H
            refine FA.done (by kernel_rfl) ?_
            intro a2 ha2
            refine (?_ : FC (Fence.wide.inRound l) [] Tryd.prog 26 _ _ _ _) a2 ha2
            replace H : Hp w0 _ ([(l, loopObj .busy 23 a.tmps #[14] asg bdy r)] :: [(r, Obj.deferred (some []))] :: [(b4, cel [.slice (some ⟨g3, 0, none⟩) (xs.length + 1) c3] 23)] :: [(g3, cel (setN l3 (xs.length * 3) (tv kt nt pt mt ct)) 25)] :: ss :: s2 :: (X ++ ([(b3, cel [.bool false] 4)] :: [(b2, cel [.slice none 0 0] 23)] :: [(b1, cel (tv k n p m c) 25)] :: F))) := H.drop.drop
            refine FC.seq ?_
            refine FC.region ?_
            refine FL.go (fair_round l) rfl trivial (RX.load H rfl (i := 2) (v := .slice (some ⟨g3, 0, none⟩) (xs.length + 1) c3) rfl rfl one23) ?_
            refine FL.go (fair_round l) rfl trivial (RX.len_slice rfl (by rw [sl23]; rfl) rfl) ?_
            refine FL.go (fair_round l) rfl trivial (RX.gt rfl rfl) ?_
            refine FL.nil ?_
            intro a3 ha3
            refine (?_ : FC (Fence.wide.inRound l) [] Tryd.prog 26 _ _ _ _) a3 ha3
            refine FC.cond_f (congrArg Value.bool (decide_eq_false (by omega))) ?_
            refine FC.skip fun a4 ha4 => ?_
            refine ⟨_, _, run_endRound none (H.get1 (i := 0) rfl), _, rfl, rfl, _, hfin p2 c2 ys sl ss ho hk g3 c3 l3 ho3, ?_⟩
            replace H := H.putObj (i := 0) (o' := loopObj .ready 23 a.tmps #[14] asg bdy r) rfl
            exact hp_back (G := [_, _, _, _, _]) ((((((((H.pull 5 rfl).pull 5 rfl).join).pull 4 rfl).pull 4 rfl).pull 4 rfl).pull 4 rfl))
        · skip
          refine FO.does (listed' := [true, true, false, true, false, false, false, false]) (fair_round l) rfl rfl rfl trivial (EX.buildSlice (pv := [(0, .agg (tv 0 0 none 0 0).toArray)]) (l := tv 0 0 none 0 0) (e := 25) H rfl (by kernel_rfl)) ?_
          rintro _ w ⟨bz, rfl, H⟩
          refine FA.all [2] (by kernel_rfl) (by decide) ?_
          refine FO.go (listed' := [true, true, true, true, false, false, false, false]) (fair_round l) rfl rfl rfl trivial (RX.len_slice rfl (by rw [sl23]; rfl) rfl) ?_
          refine FA.all [4] (by kernel_rfl) (by decide) ?_
          refine FO.does (listed' := [true, true, true, true, true, false, false, false]) (fair_round l) rfl rfl rfl trivial (EX.append (ys := tv 0 0 none 0 0) (L' := fun s' => [(bz, cel (tv 0 0 none 0 0) 25)] :: [(b6, cel (tv kt nt pt mt ct) 25)] :: [(l, loopObj .busy 23 a.tmps #[14] asg bdy r)] :: [(r, Obj.deferred (some []))] :: [(b4, cel [.slice p2 xs.length c2] 23)] :: s' :: ss :: s2 :: (X ++ ([(b3, cel [.bool false] 4)] :: [(b2, cel [.slice none 0 0] 23)] :: [(b1, cel (tv k n p m c) 25)] :: F))) H elO rfl rfl (i := 5) rfl ho (SlAt.here rfl) rfl tv_cell (by decide) (by omega) (by omega) (fun _ => rfl)) ?_
          rintro _ w ⟨p3, c3, sl3, rfl, ho3, H⟩
          obtain ⟨g3, l3, rfl, rfl, hn3, hl3, ht3⟩ := ho3.ptr (by omega)
          refine FA.all [5, 7] (by kernel_rfl) (by decide) ?_
          refine ⟨?_, ?_⟩
          · skip
            refine FO.go (listed' := [true, true, true, true, true, true, false, false]) (fair_round l) rfl rfl rfl trivial (RX.indexAddr rfl rfl sl23 (by omega) (by omega) (o' := xs.length * 3) (by omega)) ?_
            refine FA.all [6, 7] (by kernel_rfl) (by decide) ?_
            refine ⟨?_, ?_⟩
            · skip
              refine FO.does (listed' := [true, true, true, true, true, true, true, false]) (fair_round l) rfl rfl rfl trivial (EX.storeAgg H rfl rfl (i := 5) (vs := tv kt nt pt mt ct) (l' := setN l3 (xs.length * 3) (tv kt nt pt mt ct)) rfl tv_cell (by simp only [List.length_cons, List.length_nil]; omega) sz25 rfl rfl) ?_
              rintro _ w H
              refine FA.all [7] (by kernel_rfl) (by decide) ?_
              refine FO.does (listed' := [true, true, true, true, true, true, true, true]) (fair_round l) rfl rfl rfl trivial (EX.store (v := Value.slice _ _ _) H rfl rfl (i := 4) (l' := [.slice (some ⟨g3, 0, none⟩) (xs.length + 1) c3]) rfl rfl (by simp) sz23 rfl rfl) ?_
              rintro _ w H
              refine FA.done (by kernel_rfl) ?_
              intro a2 ha2
              refine (?_ : FC (Fence.wide.inRound l) [] Tryd.prog 26 _ _ _ _) a2 ha2
              replace H : Hp w0 _ ([(l, loopObj .busy 23 a.tmps #[14] asg bdy r)] :: [(r, Obj.deferred (some []))] :: [(b4, cel [.slice (some ⟨g3, 0, none⟩) (xs.length + 1) c3] 23)] :: [(g3, cel (setN l3 (xs.length * 3) (tv kt nt pt mt ct)) 25)] :: ss :: s2 :: (X ++ ([(b3, cel [.bool false] 4)] :: [(b2, cel [.slice none 0 0] 23)] :: [(b1, cel (tv k n p m c) 25)] :: F))) := H.drop.drop
              refine FC.seq ?_
              refine FC.region ?_
              refine FL.go (fair_round l) rfl trivial (RX.load H rfl (i := 2) (v := .slice (some ⟨g3, 0, none⟩) (xs.length + 1) c3) rfl rfl one23) ?_
              refine FL.go (fair_round l) rfl trivial (RX.len_slice rfl (by rw [sl23]; rfl) rfl) ?_
              refine FL.go (fair_round l) rfl trivial (RX.gt rfl rfl) ?_
              refine FL.nil ?_
              intro a3 ha3
              refine (?_ : FC (Fence.wide.inRound l) [] Tryd.prog 26 _ _ _ _) a3 ha3
              refine FC.cond_f (congrArg Value.bool (decide_eq_false (by omega))) ?_
              refine FC.skip fun a4 ha4 => ?_
              refine ⟨_, _, run_endRound none (H.get1 (i := 0) rfl), _, rfl, rfl, _, hfin p2 c2 ys sl ss ho hk g3 c3 l3 ho3, ?_⟩
              replace H := H.putObj (i := 0) (o' := loopObj .ready 23 a.tmps #[14] asg bdy r) rfl
              exact hp_back (G := [_, _, _, _, _]) ((((((((H.pull 5 rfl).pull 5 rfl).join).pull 4 rfl).pull 4 rfl).pull 4 rfl).pull 4 rfl))
            · skip
              refine FO.does (listed' := [true, true, true, true, true, true, false, true]) (fair_round l) rfl rfl rfl trivial (EX.store (v := Value.slice _ _ _) H rfl rfl (i := 4) (l' := [.slice (some ⟨g3, 0, none⟩) (xs.length + 1) c3]) rfl rfl (by simp) sz23 rfl rfl) ?_
              rintro _ w H
              refine FA.all [6] (by kernel_rfl) (by decide) ?_
              refine FO.does (listed' := [true, true, true, true, true, true, true, true]) (fair_round l) rfl rfl rfl trivial (EX.storeAgg H rfl rfl (i := 5) (vs := tv kt nt pt mt ct) (l' := setN l3 (xs.length * 3) (tv kt nt pt mt ct)) rfl tv_cell (by simp only [List.length_cons, List.length_nil]; omega) sz25 rfl rfl) ?_
              rintro _ w H
              refine FA.done (by kernel_rfl) ?_
              intro a2 ha2
              refine (?_ : FC (Fence.wide.inRound l) [] Tryd.prog 26 _ _ _ _) a2 ha2
              replace H : Hp w0 _ ([(l, loopObj .busy 23 a.tmps #[14] asg bdy r)] :: [(r, Obj.deferred (some []))] :: [(b4, cel [.slice (some ⟨g3, 0, none⟩) (xs.length + 1) c3] 23)] :: [(g3, cel (setN l3 (xs.length * 3) (tv kt nt pt mt ct)) 25)] :: ss :: s2 :: (X ++ ([(b3, cel [.bool false] 4)] :: [(b2, cel [.slice none 0 0] 23)] :: [(b1, cel (tv k n p m c) 25)] :: F))) := H.drop.drop
              refine FC.seq ?_
              refine FC.region ?_
              refine FL.go (fair_round l) rfl trivial (RX.load H rfl (i := 2) (v := .slice (some ⟨g3, 0, none⟩) (xs.length + 1) c3) rfl rfl one23) ?_
              refine FL.go (fair_round l) rfl trivial (RX.len_slice rfl (by rw [sl23]; rfl) rfl) ?_
              refine FL.go (fair_round l) rfl trivial (RX.gt rfl rfl) ?_
              refine FL.nil ?_
              intro a3 ha3
              refine (?_ : FC (Fence.wide.inRound l) [] Tryd.prog 26 _ _ _ _) a3 ha3
              refine FC.cond_f (congrArg Value.bool (decide_eq_false (by omega))) ?_
              refine FC.skip fun a4 ha4 => ?_
              refine ⟨_, _, run_endRound none (H.get1 (i := 0) rfl), _, rfl, rfl, _, hfin p2 c2 ys sl ss ho hk g3 c3 l3 ho3, ?_⟩
              replace H := H.putObj (i := 0) (o' := loopObj .ready 23 a.tmps #[14] asg bdy r) rfl
              exact hp_back (G := [_, _, _, _, _]) ((((((((H.pull 5 rfl).pull 5 rfl).join).pull 4 rfl).pull 4 rfl).pull 4 rfl).pull 4 rfl))
          · skip
            refine FO.does (listed' := [true, true, true, true, true, false, false, true]) (fair_round l) rfl rfl rfl trivial (EX.store (v := Value.slice _ _ _) H rfl rfl (i := 4) (l' := [.slice (some ⟨g3, 0, none⟩) (xs.length + 1) c3]) rfl rfl (by simp) sz23 rfl rfl) ?_
            rintro _ w H
            refine FA.all [5] (by kernel_rfl) (by decide) ?_
            refine FO.go (listed' := [true, true, true, true, true, true, false, true]) (fair_round l) rfl rfl rfl trivial (RX.indexAddr rfl rfl sl23 (by omega) (by omega) (o' := xs.length * 3) (by omega)) ?_
            refine FA.all [6] (by kernel_rfl) (by decide) ?_
            refine FO.does (listed' := [true, true, true, true, true, true, true, true]) (fair_round l) rfl rfl rfl trivial (EX.storeAgg H rfl rfl (i := 5) (vs := tv kt nt pt mt ct) (l' := setN l3 (xs.length * 3) (tv kt nt pt mt ct)) rfl tv_cell (by simp only [List.length_cons, List.length_nil]; omega) sz25 rfl rfl) ?_
            rintro _ w H
            refine FA.done (by kernel_rfl) ?_
            intro a2 ha2
            refine (?_ : FC (Fence.wide.inRound l) [] Tryd.prog 26 _ _ _ _) a2 ha2
            replace H : Hp w0 _ ([(l, loopObj .busy 23 a.tmps #[14] asg bdy r)] :: [(r, Obj.deferred (some []))] :: [(b4, cel [.slice (some ⟨g3, 0, none⟩) (xs.length + 1) c3] 23)] :: [(g3, cel (setN l3 (xs.length * 3) (tv kt nt pt mt ct)) 25)] :: ss :: s2 :: (X ++ ([(b3, cel [.bool false] 4)] :: [(b2, cel [.slice none 0 0] 23)] :: [(b1, cel (tv k n p m c) 25)] :: F))) := H.drop.drop
            refine FC.seq ?_
            refine FC.region ?_
            refine FL.go (fair_round l) rfl trivial (RX.load H rfl (i := 2) (v := .slice (some ⟨g3, 0, none⟩) (xs.length + 1) c3) rfl rfl one23) ?_
            refine FL.go (fair_round l) rfl trivial (RX.len_slice rfl (by rw [sl23]; rfl) rfl) ?_
            refine FL.go (fair_round l) rfl trivial (RX.gt rfl rfl) ?_
            refine FL.nil ?_
            intro a3 ha3
            refine (?_ : FC (Fence.wide.inRound l) [] Tryd.prog 26 _ _ _ _) a3 ha3
            refine FC.cond_f (congrArg Value.bool (decide_eq_false (by omega))) ?_
            refine FC.skip fun a4 ha4 => ?_
            refine ⟨_, _, run_endRound none (H.get1 (i := 0) rfl), _, rfl, rfl, _, hfin p2 c2 ys sl ss ho hk g3 c3 l3 ho3, ?_⟩
            replace H := H.putObj (i := 0) (o' := loopObj .ready 23 a.tmps #[14] asg bdy r) rfl
            exact hp_back (G := [_, _, _, _, _]) ((((((((H.pull 5 rfl).pull 5 rfl).join).pull 4 rfl).pull 4 rfl).pull 4 rfl).pull 4 rfl))
      · skip
        refine FO.go (listed' := [true, false, true, false, false, false, false, false]) (fair_round l) rfl rfl rfl trivial (RX.len_slice rfl (by rw [sl23]; rfl) rfl) ?_
        refine FA.all [1, 3] (by kernel_rfl) (by decide) ?_
        refine ⟨?_, ?_⟩
        · skip
          refine FO.go (listed' := [true, true, true, false, false, false, false, false]) (fair_round l) rfl rfl rfl trivial (by first | exact RX.loadAgg H rfl (i := 0) (vs := tv kt nt pt mt ct) rfl rfl ag25 | exact RX.loadAgg H rfl (i := 1) (vs := tv kt nt pt mt ct) rfl rfl ag25) ?_
          refine FA.all [3] (by kernel_rfl) (by decide) ?_
          refine FO.does (listed' := [true, true, true, true, false, false, false, false]) (fair_round l) rfl rfl rfl trivial (EX.buildSlice (pv := [(0, .agg (tv 0 0 none 0 0).toArray)]) (l := tv 0 0 none 0 0) (e := 25) H rfl (by kernel_rfl)) ?_
          rintro _ w ⟨bz, rfl, H⟩
          refine FA.all [4] (by kernel_rfl) (by decide) ?_
          refine FO.does (listed' := [true, true, true, true, true, false, false, false]) (fair_round l) rfl rfl rfl trivial (EX.append (ys := tv 0 0 none 0 0) (L' := fun s' => [(bz, cel (tv 0 0 none 0 0) 25)] :: [(b6, cel (tv kt nt pt mt ct) 25)] :: [(l, loopObj .busy 23 a.tmps #[14] asg bdy r)] :: [(r, Obj.deferred (some []))] :: [(b4, cel [.slice p2 xs.length c2] 23)] :: s' :: ss :: s2 :: (X ++ ([(b3, cel [.bool false] 4)] :: [(b2, cel [.slice none 0 0] 23)] :: [(b1, cel (tv k n p m c) 25)] :: F))) H elO rfl rfl (i := 5) rfl ho (SlAt.here rfl) rfl tv_cell (by decide) (by omega) (by omega) (fun _ => rfl)) ?_
          rintro _ w ⟨p3, c3, sl3, rfl, ho3, H⟩
          obtain ⟨g3, l3, rfl, rfl, hn3, hl3, ht3⟩ := ho3.ptr (by omega)
          refine FA.all [5, 7] (by kernel_rfl) (by decide) ?_
          refine ⟨?_, ?_⟩
          · skip
            refine FO.go (listed' := [true, true, true, true, true, true, false, false]) (fair_round l) rfl rfl rfl trivial (RX.indexAddr rfl rfl sl23 (by omega) (by omega) (o' := xs.length * 3) (by omega)) ?_
            refine FA.all [6, 7] (by kernel_rfl) (by decide) ?_
            refine ⟨?_, ?_⟩
            · skip
              refine FO.does (listed' := [true, true, true, true, true, true, true, false]) (fair_round l) rfl rfl rfl trivial (EX.storeAgg H rfl rfl (i := 5) (vs := tv kt nt pt mt ct) (l' := setN l3 (xs.length * 3) (tv kt nt pt mt ct)) rfl tv_cell (by simp only [List.length_cons, List.length_nil]; omega) sz25 rfl rfl) ?_
              rintro _ w H
              refine FA.all [7] (by kernel_rfl) (by decide) ?_
              refine FO.does (listed' := [true, true, true, true, true, true, true, true]) (fair_round l) rfl rfl rfl trivial (EX.store (v := Value.slice _ _ _) H rfl rfl (i := 4) (l' := [.slice (some ⟨g3, 0, none⟩) (xs.length + 1) c3]) rfl rfl (by simp) sz23 rfl rfl) ?_
              rintro _ w H
              refine FA.done (by kernel_rfl) ?_
              intro a2 ha2
              refine (?_ : FC (Fence.wide.inRound l) [] Tryd.prog 26 _ _ _ _) a2 ha2
              replace H : Hp w0 _ ([(l, loopObj .busy 23 a.tmps #[14] asg bdy r)] :: [(r, Obj.deferred (some []))] :: [(b4, cel [.slice (some ⟨g3, 0, none⟩) (xs.length + 1) c3] 23)] :: [(g3, cel (setN l3 (xs.length * 3) (tv kt nt pt mt ct)) 25)] :: ss :: s2 :: (X ++ ([(b3, cel [.bool false] 4)] :: [(b2, cel [.slice none 0 0] 23)] :: [(b1, cel (tv k n p m c) 25)] :: F))) := H.drop.drop
              refine FC.seq ?_
              refine FC.region ?_
              refine FL.go (fair_round l) rfl trivial (RX.load H rfl (i := 2) (v := .slice (some ⟨g3, 0, none⟩) (xs.length + 1) c3) rfl rfl one23) ?_
              refine FL.go (fair_round l) rfl trivial (RX.len_slice rfl (by rw [sl23]; rfl) rfl) ?_
              refine FL.go (fair_round l) rfl trivial (RX.gt rfl rfl) ?_
              refine FL.nil ?_
              intro a3 ha3
              refine (?_ : FC (Fence.wide.inRound l) [] Tryd.prog 26 _ _ _ _) a3 ha3
              refine FC.cond_f (congrArg Value.bool (decide_eq_false (by omega))) ?_
              refine FC.skip fun a4 ha4 => ?_
              refine ⟨_, _, run_endRound none (H.get1 (i := 0) rfl), _, rfl, rfl, _, hfin p2 c2 ys sl ss ho hk g3 c3 l3 ho3, ?_⟩
              replace H := H.putObj (i := 0) (o' := loopObj .ready 23 a.tmps #[14] asg bdy r) rfl
              exact hp_back (G := [_, _, _, _, _]) ((((((((H.pull 5 rfl).pull 5 rfl).join).pull 4 rfl).pull 4 rfl).pull 4 rfl).pull 4 rfl))
            · skip
              refine FO.does (listed' := [true, true, true, true, true, true, false, true]) (fair_round l) rfl rfl rfl trivial (EX.store (v := Value.slice _ _ _) H rfl rfl (i := 4) (l' := [.slice (some ⟨g3, 0, none⟩) (xs.length + 1) c3]) rfl rfl (by simp) sz23 rfl rfl) ?_
              rintro _ w H
              refine FA.all [6] (by kernel_rfl) (by decide) ?_
              refine FO.does (listed' := [true, true, true, true, true, true, true, true]) (fair_round l) rfl rfl rfl trivial (EX.storeAgg H rfl rfl (i := 5) (vs := tv kt nt pt mt ct) (l' := setN l3 (xs.length * 3) (tv kt nt pt mt ct)) rfl tv_cell (by simp only [List.length_cons, List.length_nil]; omega) sz25 rfl rfl) ?_
              rintro _ w H
              refine FA.done (by kernel_rfl) ?_
              intro a2 ha2
              refine (?_ : FC (Fence.wide.inRound l) [] Tryd.prog 26 _ _ _ _) a2 ha2
              replace H : Hp w0 _ ([(l, loopObj .busy 23 a.tmps #[14] asg bdy r)] :: [(r, Obj.deferred (some []))] :: [(b4, cel [.slice (some ⟨g3, 0, none⟩) (xs.length + 1) c3] 23)] :: [(g3, cel (setN l3 (xs.length * 3) (tv kt nt pt mt ct)) 25)] :: ss :: s2 :: (X ++ ([(b3, cel [.bool false] 4)] :: [(b2, cel [.slice none 0 0] 23)] :: [(b1, cel (tv k n p m c) 25)] :: F))) := H.drop.drop
              refine FC.seq ?_
              refine FC.region ?_
              refine FL.go (fair_round l) rfl trivial (RX.load H rfl (i := 2) (v := .slice (some ⟨g3, 0, none⟩) (xs.length + 1) c3) rfl rfl one23) ?_
              refine FL.go (fair_round l) rfl trivial (RX.len_slice rfl (by rw [sl23]; rfl) rfl) ?_
              refine FL.go (fair_round l) rfl trivial (RX.gt rfl rfl) ?_
              refine FL.nil ?_
              intro a3 ha3
              refine (?_ : FC (Fence.wide.inRound l) [] Tryd.prog 26 _ _ _ _) a3 ha3
              refine FC.cond_f (congrArg Value.bool (decide_eq_false (by omega))) ?_
              refine FC.skip fun a4 ha4 => ?_
              refine ⟨_, _, run_endRound none (H.get1 (i := 0) rfl), _, rfl, rfl, _, hfin p2 c2 ys sl ss ho hk g3 c3 l3 ho3, ?_⟩
              replace H := H.putObj (i := 0) (o' := loopObj .ready 23 a.tmps #[14] asg bdy r) rfl
              exact hp_back (G := [_, _, _, _, _]) ((((((((H.pull 5 rfl).pull 5 rfl).join).pull 4 rfl).pull 4 rfl).pull 4 rfl).pull 4 rfl))
          · skip
            refine FO.does (listed' := [true, true, true, true, true, false, false, true]) (fair_round l) rfl rfl rfl trivial (EX.store (v := Value.slice _ _ _) H rfl rfl (i := 4) (l' := [.slice (some ⟨g3, 0, none⟩) (xs.length + 1) c3]) rfl rfl (by simp) sz23 rfl rfl) ?_
            rintro _ w H
            refine FA.all [5] (by kernel_rfl) (by decide) ?_
            refine FO.go (listed' := [true, true, true, true, true, true, false, true]) (fair_round l) rfl rfl rfl trivial (RX.indexAddr rfl rfl sl23 (by omega) (by omega) (o' := xs.length * 3) (by omega)) ?_
            refine FA.all [6] (by kernel_rfl) (by decide) ?_
            refine FO.does (listed' := [true, true, true, true, true, true, true, true]) (fair_round l) rfl rfl rfl trivial (EX.storeAgg H rfl rfl (i := 5) (vs := tv kt nt pt mt ct) (l' := setN l3 (xs.length * 3) (tv kt nt pt mt ct)) rfl tv_cell (by simp only [List.length_cons, List.length_nil]; omega) sz25 rfl rfl) ?_
            rintro _ w H
            refine FA.done (by kernel_rfl) ?_
            intro a2 ha2
            refine (?_ : FC (Fence.wide.inRound l) [] Tryd.prog 26 _ _ _ _) a2 ha2
            replace H : Hp w0 _ ([(l, loopObj .busy 23 a.tmps #[14] asg bdy r)] :: [(r, Obj.deferred (some []))] :: [(b4, cel [.slice (some ⟨g3, 0, none⟩) (xs.length + 1) c3] 23)] :: [(g3, cel (setN l3 (xs.length * 3) (tv kt nt pt mt ct)) 25)] :: ss :: s2 :: (X ++ ([(b3, cel [.bool false] 4)] :: [(b2, cel [.slice none 0 0] 23)] :: [(b1, cel (tv k n p m c) 25)] :: F))) := H.drop.drop
            refine FC.seq ?_
            refine FC.region ?_
            refine FL.go (fair_round l) rfl trivial (RX.load H rfl (i := 2) (v := .slice (some ⟨g3, 0, none⟩) (xs.length + 1) c3) rfl rfl one23) ?_
            refine FL.go (fair_round l) rfl trivial (RX.len_slice rfl (by rw [sl23]; rfl) rfl) ?_
            refine FL.go (fair_round l) rfl trivial (RX.gt rfl rfl) ?_
            refine FL.nil ?_
            intro a3 ha3
            refine (?_ : FC (Fence.wide.inRound l) [] Tryd.prog 26 _ _ _ _) a3 ha3
            refine FC.cond_f (congrArg Value.bool (decide_eq_false (by omega))) ?_
            refine FC.skip fun a4 ha4 => ?_
            refine ⟨_, _, run_endRound none (H.get1 (i := 0) rfl), _, rfl, rfl, _, hfin p2 c2 ys sl ss ho hk g3 c3 l3 ho3, ?_⟩
            replace H := H.putObj (i := 0) (o' := loopObj .ready 23 a.tmps #[14] asg bdy r) rfl
            exact hp_back (G := [_, _, _, _, _]) ((((((((H.pull 5 rfl).pull 5 rfl).join).pull 4 rfl).pull 4 rfl).pull 4 rfl).pull 4 rfl))
        · skip
          refine FO.does (listed' := [true, false, true, true, false, false, false, false]) (fair_round l) rfl rfl rfl trivial (EX.buildSlice (pv := [(0, .agg (tv 0 0 none 0 0).toArray)]) (l := tv 0 0 none 0 0) (e := 25) H rfl (by kernel_rfl)) ?_
          rintro _ w ⟨bz, rfl, H⟩
          refine FA.all [1] (by kernel_rfl) (by decide) ?_
          refine FO.go (listed' := [true, true, true, true, false, false, false, false]) (fair_round l) rfl rfl rfl trivial (by first | exact RX.loadAgg H rfl (i := 0) (vs := tv kt nt pt mt ct) rfl rfl ag25 | exact RX.loadAgg H rfl (i := 1) (vs := tv kt nt pt mt ct) rfl rfl ag25) ?_
          refine FA.all [4] (by kernel_rfl) (by decide) ?_
          refine FO.does (listed' := [true, true, true, true, true, false, false, false]) (fair_round l) rfl rfl rfl trivial (EX.append (ys := tv 0 0 none 0 0) (L' := fun s' => [(bz, cel (tv 0 0 none 0 0) 25)] :: [(b6, cel (tv kt nt pt mt ct) 25)] :: [(l, loopObj .busy 23 a.tmps #[14] asg bdy r)] :: [(r, Obj.deferred (some []))] :: [(b4, cel [.slice p2 xs.length c2] 23)] :: s' :: ss :: s2 :: (X ++ ([(b3, cel [.bool false] 4)] :: [(b2, cel [.slice none 0 0] 23)] :: [(b1, cel (tv k n p m c) 25)] :: F))) H elO rfl rfl (i := 5) rfl ho (SlAt.here rfl) rfl tv_cell (by decide) (by omega) (by omega) (fun _ => rfl)) ?_
          rintro _ w ⟨p3, c3, sl3, rfl, ho3, H⟩
          obtain ⟨g3, l3, rfl, rfl, hn3, hl3, ht3⟩ := ho3.ptr (by omega)
          refine FA.all [5, 7] (by kernel_rfl) (by decide) ?_
          refine ⟨?_, ?_⟩
          · skip
            refine FO.go (listed' := [true, true, true, true, true, true, false, false]) (fair_round l) rfl rfl rfl trivial (RX.indexAddr rfl rfl sl23 (by omega) (by omega) (o' := xs.length * 3) (by omega)) ?_
            refine FA.all [6, 7] (by kernel_rfl) (by decide) ?_
            refine ⟨?_, ?_⟩
            · skip
              refine FO.does (listed' := [true, true, true, true, true, true, true, false]) (fair_round l) rfl rfl rfl trivial (EX.storeAgg H rfl rfl (i := 5) (vs := tv kt nt pt mt ct) (l' := setN l3 (xs.length * 3) (tv kt nt pt mt ct)) rfl tv_cell (by simp only [List.length_cons, List.length_nil]; omega) sz25 rfl rfl) ?_
              rintro _ w H
              refine FA.all [7] (by kernel_rfl) (by decide) ?_
              refine FO.does (listed' := [true, true, true, true, true, true, true, true]) (fair_round l) rfl rfl rfl trivial (EX.store (v := Value.slice _ _ _) H rfl rfl (i := 4) (l' := [.slice (some ⟨g3, 0, none⟩) (xs.length + 1) c3]) rfl rfl (by simp) sz23 rfl rfl) ?_
              rintro _ w H
              refine FA.done (by kernel_rfl) ?_
              intro a2 ha2
              refine (?_ : FC (Fence.wide.inRound l) [] Tryd.prog 26 _ _ _ _) a2 ha2
              replace H : Hp w0 _ ([(l, loopObj .busy 23 a.tmps #[14] asg bdy r)] :: [(r, Obj.deferred (some []))] :: [(b4, cel [.slice (some ⟨g3, 0, none⟩) (xs.length + 1) c3] 23)] :: [(g3, cel (setN l3 (xs.length * 3) (tv kt nt pt mt ct)) 25)] :: ss :: s2 :: (X ++ ([(b3, cel [.bool false] 4)] :: [(b2, cel [.slice none 0 0] 23)] :: [(b1, cel (tv k n p m c) 25)] :: F))) := H.drop.drop
              refine FC.seq ?_
              refine FC.region ?_
              refine FL.go (fair_round l) rfl trivial (RX.load H rfl (i := 2) (v := .slice (some ⟨g3, 0, none⟩) (xs.length + 1) c3) rfl rfl one23) ?_
              refine FL.go (fair_round l) rfl trivial (RX.len_slice rfl (by rw [sl23]; rfl) rfl) ?_
              refine FL.go (fair_round l) rfl trivial (RX.gt rfl rfl) ?_
              refine FL.nil ?_
              intro a3 ha3
              refine (?_ : FC (Fence.wide.inRound l) [] Tryd.prog 26 _ _ _ _) a3 ha3
              refine FC.cond_f (congrArg Value.bool (decide_eq_false (by omega))) ?_
              refine FC.skip fun a4 ha4 => ?_
              refine ⟨_, _, run_endRound none (H.get1 (i := 0) rfl), _, rfl, rfl, _, hfin p2 c2 ys sl ss ho hk g3 c3 l3 ho3, ?_⟩
              replace H := H.putObj (i := 0) (o' := loopObj .ready 23 a.tmps #[14] asg bdy r) rfl
              exact hp_back (G := [_, _, _, _, _]) ((((((((H.pull 5 rfl).pull 5 rfl).join).pull 4 rfl).pull 4 rfl).pull 4 rfl).pull 4 rfl))
            · skip
              refine FO.does (listed' := [true, true, true, true, true, true, false, true]) (fair_round l) rfl rfl rfl trivial (EX.store (v := Value.slice _ _ _) H rfl rfl (i := 4) (l' := [.slice (some ⟨g3, 0, none⟩) (xs.length + 1) c3]) rfl rfl (by simp) sz23 rfl rfl) ?_
              rintro _ w H
              refine FA.all [6] (by kernel_rfl) (by decide) ?_
              refine FO.does (listed' := [true, true, true, true, true, true, true, true]) (fair_round l) rfl rfl rfl trivial (EX.storeAgg H rfl rfl (i := 5) (vs := tv kt nt pt mt ct) (l' := setN l3 (xs.length * 3) (tv kt nt pt mt ct)) rfl tv_cell (by simp only [List.length_cons, List.length_nil]; omega) sz25 rfl rfl) ?_
              rintro _ w H
              refine FA.done (by kernel_rfl) ?_
              intro a2 ha2
              refine (?_ : FC (Fence.wide.inRound l) [] Tryd.prog 26 _ _ _ _) a2 ha2
              replace H : Hp w0 _ ([(l, loopObj .busy 23 a.tmps #[14] asg bdy r)] :: [(r, Obj.deferred (some []))] :: [(b4, cel [.slice (some ⟨g3, 0, none⟩) (xs.length + 1) c3] 23)] :: [(g3, cel (setN l3 (xs.length * 3) (tv kt nt pt mt ct)) 25)] :: ss :: s2 :: (X ++ ([(b3, cel [.bool false] 4)] :: [(b2, cel [.slice none 0 0] 23)] :: [(b1, cel (tv k n p m c) 25)] :: F))) := H.drop.drop
              refine FC.seq ?_
              refine FC.region ?_
              refine FL.go (fair_round l) rfl trivial (RX.load H rfl (i := 2) (v := .slice (some ⟨g3, 0, none⟩) (xs.length + 1) c3) rfl rfl one23) ?_
              refine FL.go (fair_round l) rfl trivial (RX.len_slice rfl (by rw [sl23]; rfl) rfl) ?_
              refine FL.go (fair_round l) rfl trivial (RX.gt rfl rfl) ?_
              refine FL.nil ?_
              intro a3 ha3
              refine (?_ : FC (Fence.wide.inRound l) [] Tryd.prog 26 _ _ _ _) a3 ha3
              refine FC.cond_f (congrArg Value.bool (decide_eq_false (by omega))) ?_
              refine FC.skip fun a4 ha4 => ?_
              refine ⟨_, _, run_endRound none (H.get1 (i := 0) rfl), _, rfl, rfl, _, hfin p2 c2 ys sl ss ho hk g3 c3 l3 ho3, ?_⟩
              replace H := H.putObj (i := 0) (o' := loopObj .ready 23 a.tmps #[14] asg bdy r) rfl
              exact hp_back (G := [_, _, _, _, _]) ((((((((H.pull 5 rfl).pull 5 rfl).join).pull 4 rfl).pull 4 rfl).pull 4 rfl).pull 4 rfl))
          · skip
            refine FO.does (listed' := [true, true, true, true, true, false, false, true]) (fair_round l) rfl rfl rfl trivial (EX.store (v := Value.slice _ _ _) H rfl rfl (i := 4) (l' := [.slice (some ⟨g3, 0, none⟩) (xs.length + 1) c3]) rfl rfl (by simp) sz23 rfl rfl) ?_
            rintro _ w H
            refine FA.all [5] (by kernel_rfl) (by decide) ?_
            refine FO.go (listed' := [true, true, true, true, true, true, false, true]) (fair_round l) rfl rfl rfl trivial (RX.indexAddr rfl rfl sl23 (by omega) (by omega) (o' := xs.length * 3) (by omega)) ?_
            refine FA.all [6] (by kernel_rfl) (by decide) ?_
            refine FO.does (listed' := [true, true, true, true, true, true, true, true]) (fair_round l) rfl rfl rfl trivial (EX.storeAgg H rfl rfl (i := 5) (vs := tv kt nt pt mt ct) (l' := setN l3 (xs.length * 3) (tv kt nt pt mt ct)) rfl tv_cell (by simp only [List.length_cons, List.length_nil]; omega) sz25 rfl rfl) ?_
            rintro _ w H
            refine FA.done (by kernel_rfl) ?_
            intro a2 ha2
            refine (?_ : FC (Fence.wide.inRound l) [] Tryd.prog 26 _ _ _ _) a2 ha2
            replace H : Hp w0 _ ([(l, loopObj .busy 23 a.tmps #[14] asg bdy r)] :: [(r, Obj.deferred (some []))] :: [(b4, cel [.slice (some ⟨g3, 0, none⟩) (xs.length + 1) c3] 23)] :: [(g3, cel (setN l3 (xs.length * 3) (tv kt nt pt mt ct)) 25)] :: ss :: s2 :: (X ++ ([(b3, cel [.bool false] 4)] :: [(b2, cel [.slice none 0 0] 23)] :: [(b1, cel (tv k n p m c) 25)] :: F))) := H.drop.drop
            refine FC.seq ?_
            refine FC.region ?_
            refine FL.go (fair_round l) rfl trivial (RX.load H rfl (i := 2) (v := .slice (some ⟨g3, 0, none⟩) (xs.length + 1) c3) rfl rfl one23) ?_
            refine FL.go (fair_round l) rfl trivial (RX.len_slice rfl (by rw [sl23]; rfl) rfl) ?_
            refine FL.go (fair_round l) rfl trivial (RX.gt rfl rfl) ?_
            refine FL.nil ?_
            intro a3 ha3
            refine (?_ : FC (Fence.wide.inRound l) [] Tryd.prog 26 _ _ _ _) a3 ha3
            refine FC.cond_f (congrArg Value.bool (decide_eq_false (by omega))) ?_
            refine FC.skip fun a4 ha4 => ?_
            refine ⟨_, _, run_endRound none (H.get1 (i := 0) rfl), _, rfl, rfl, _, hfin p2 c2 ys sl ss ho hk g3 c3 l3 ho3, ?_⟩
            replace H := H.putObj (i := 0) (o' := loopObj .ready 23 a.tmps #[14] asg bdy r) rfl
            exact hp_back (G := [_, _, _, _, _]) ((((((((H.pull 5 rfl).pull 5 rfl).join).pull 4 rfl).pull 4 rfl).pull 4 rfl).pull 4 rfl))
      · skip
        refine FO.does (listed' := [true, false, false, true, false, false, false, false]) (fair_round l) rfl rfl rfl trivial (EX.buildSlice (pv := [(0, .agg (tv 0 0 none 0 0).toArray)]) (l := tv 0 0 none 0 0) (e := 25) H rfl (by kernel_rfl)) ?_
        rintro _ w ⟨bz, rfl, H⟩
        refine FA.all [1, 2] (by kernel_rfl) (by decide) ?_
        refine ⟨?_, ?_⟩
        · skip
          refine FO.go (listed' := [true, true, false, true, false, false, false, false]) (fair_round l) rfl rfl rfl trivial (by first | exact RX.loadAgg H rfl (i := 0) (vs := tv kt nt pt mt ct) rfl rfl ag25 | exact RX.loadAgg H rfl (i := 1) (vs := tv kt nt pt mt ct) rfl rfl ag25) ?_
          refine FA.all [2] (by kernel_rfl) (by decide) ?_
          refine FO.go (listed' := [true, true, true, true, false, false, false, false]) (fair_round l) rfl rfl rfl trivial (RX.len_slice rfl (by rw [sl23]; rfl) rfl) ?_
          refine FA.all [4] (by kernel_rfl) (by decide) ?_
          refine FO.does (listed' := [true, true, true, true, true, false, false, false]) (fair_round l) rfl rfl rfl trivial (EX.append (ys := tv 0 0 none 0 0) (L' := fun s' => [(bz, cel (tv 0 0 none 0 0) 25)] :: [(b6, cel (tv kt nt pt mt ct) 25)] :: [(l, loopObj .busy 23 a.tmps #[14] asg bdy r)] :: [(r, Obj.deferred (some []))] :: [(b4, cel [.slice p2 xs.length c2] 23)] :: s' :: ss :: s2 :: (X ++ ([(b3, cel [.bool false] 4)] :: [(b2, cel [.slice none 0 0] 23)] :: [(b1, cel (tv k n p m c) 25)] :: F))) H elO rfl rfl (i := 5) rfl ho (SlAt.here rfl) rfl tv_cell (by decide) (by omega) (by omega) (fun _ => rfl)) ?_
          rintro _ w ⟨p3, c3, sl3, rfl, ho3, H⟩
          obtain ⟨g3, l3, rfl, rfl, hn3, hl3, ht3⟩ := ho3.ptr (by omega)
          refine FA.all [5, 7] (by kernel_rfl) (by decide) ?_
          refine ⟨?_, ?_⟩
          · skip
            refine FO.go (listed' := [true, true, true, true, true, true, false, false]) (fair_round l) rfl rfl rfl trivial (RX.indexAddr rfl rfl sl23 (by omega) (by omega) (o' := xs.length * 3) (by omega)) ?_
            refine FA.all [6, 7] (by kernel_rfl) (by decide) ?_
            refine ⟨?_, ?_⟩
            · skip
              refine FO.does (listed' := [true, true, true, true, true, true, true, false]) (fair_round l) rfl rfl rfl trivial (EX.storeAgg H rfl rfl (i := 5) (vs := tv kt nt pt mt ct) (l' := setN l3 (xs.length * 3) (tv kt nt pt mt ct)) rfl tv_cell (by simp only [List.length_cons, List.length_nil]; omega) sz25 rfl rfl) ?_
              rintro _ w H
              refine FA.all [7] (by kernel_rfl) (by decide) ?_
              refine FO.does (listed' := [true, true, true, true, true, true, true, true]) (fair_round l) rfl rfl rfl trivial (EX.store (v := Value.slice _ _ _) H rfl rfl (i := 4) (l' := [.slice (some ⟨g3, 0, none⟩) (xs.length + 1) c3]) rfl rfl (by simp) sz23 rfl rfl) ?_
              rintro _ w H
              refine FA.done (by kernel_rfl) ?_
              intro a2 ha2
              refine (?_ : FC (Fence.wide.inRound l) [] Tryd.prog 26 _ _ _ _) a2 ha2
              replace H : Hp w0 _ ([(l, loopObj .busy 23 a.tmps #[14] asg bdy r)] :: [(r, Obj.deferred (some []))] :: [(b4, cel [.slice (some ⟨g3, 0, none⟩) (xs.length + 1) c3] 23)] :: [(g3, cel (setN l3 (xs.length * 3) (tv kt nt pt mt ct)) 25)] :: ss :: s2 :: (X ++ ([(b3, cel [.bool false] 4)] :: [(b2, cel [.slice none 0 0] 23)] :: [(b1, cel (tv k n p m c) 25)] :: F))) := H.drop.drop
              refine FC.seq ?_
              refine FC.region ?_
              refine FL.go (fair_round l) rfl trivial (RX.load H rfl (i := 2) (v := .slice (some ⟨g3, 0, none⟩) (xs.length + 1) c3) rfl rfl one23) ?_
              refine FL.go (fair_round l) rfl trivial (RX.len_slice rfl (by rw [sl23]; rfl) rfl) ?_
              refine FL.go (fair_round l) rfl trivial (RX.gt rfl rfl) ?_
              refine FL.nil ?_
              intro a3 ha3
              refine (?_ : FC (Fence.wide.inRound l) [] Tryd.prog 26 _ _ _ _) a3 ha3
              refine FC.cond_f (congrArg Value.bool (decide_eq_false (by omega))) ?_
              refine FC.skip fun a4 ha4 => ?_
              refine ⟨_, _, run_endRound none (H.get1 (i := 0) rfl), _, rfl, rfl, _, hfin p2 c2 ys sl ss ho hk g3 c3 l3 ho3, ?_⟩
              replace H := H.putObj (i := 0) (o' := loopObj .ready 23 a.tmps #[14] asg bdy r) rfl
              exact hp_back (G := [_, _, _, _, _]) ((((((((H.pull 5 rfl).pull 5 rfl).join).pull 4 rfl).pull 4 rfl).pull 4 rfl).pull 4 rfl))
            · skip
              refine FO.does (listed' := [true, true, true, true, true, true, false, true]) (fair_round l) rfl rfl rfl trivial (EX.store (v := Value.slice _ _ _) H rfl rfl (i := 4) (l' := [.slice (some ⟨g3, 0, none⟩) (xs.length + 1) c3]) rfl rfl (by simp) sz23 rfl rfl) ?_
              rintro _ w H
              refine FA.all [6] (by kernel_rfl) (by decide) ?_
              refine FO.does (listed' := [true, true, true, true, true, true, true, true]) (fair_round l) rfl rfl rfl trivial (EX.storeAgg H rfl rfl (i := 5) (vs := tv kt nt pt mt ct) (l' := setN l3 (xs.length * 3) (tv kt nt pt mt ct)) rfl tv_cell (by simp only [List.length_cons, List.length_nil]; omega) sz25 rfl rfl) ?_
              rintro _ w H
              refine FA.done (by kernel_rfl) ?_
              intro a2 ha2
              refine (?_ : FC (Fence.wide.inRound l) [] Tryd.prog 26 _ _ _ _) a2 ha2
              replace H : Hp w0 _ ([(l, loopObj .busy 23 a.tmps #[14] asg bdy r)] :: [(r, Obj.deferred (some []))] :: [(b4, cel [.slice (some ⟨g3, 0, none⟩) (xs.length + 1) c3] 23)] :: [(g3, cel (setN l3 (xs.length * 3) (tv kt nt pt mt ct)) 25)] :: ss :: s2 :: (X ++ ([(b3, cel [.bool false] 4)] :: [(b2, cel [.slice none 0 0] 23)] :: [(b1, cel (tv k n p m c) 25)] :: F))) := H.drop.drop
              refine FC.seq ?_
              refine FC.region ?_
              refine FL.go (fair_round l) rfl trivial (RX.load H rfl (i := 2) (v := .slice (some ⟨g3, 0, none⟩) (xs.length + 1) c3) rfl rfl one23) ?_
              refine FL.go (fair_round l) rfl trivial (RX.len_slice rfl (by rw [sl23]; rfl) rfl) ?_
              refine FL.go (fair_round l) rfl trivial (RX.gt rfl rfl) ?_
              refine FL.nil ?_
              intro a3 ha3
              refine (?_ : FC (Fence.wide.inRound l) [] Tryd.prog 26 _ _ _ _) a3 ha3
              refine FC.cond_f (congrArg Value.bool (decide_eq_false (by omega))) ?_
              refine FC.skip fun a4 ha4 => ?_
              refine ⟨_, _, run_endRound none (H.get1 (i := 0) rfl), _, rfl, rfl, _, hfin p2 c2 ys sl ss ho hk g3 c3 l3 ho3, ?_⟩
              replace H := H.putObj (i := 0) (o' := loopObj .ready 23 a.tmps #[14] asg bdy r) rfl
              exact hp_back (G := [_, _, _, _, _]) ((((((((H.pull 5 rfl).pull 5 rfl).join).pull 4 rfl).pull 4 rfl).pull 4 rfl).pull 4 rfl))
          · skip
            refine FO.does (listed' := [true, true, true, true, true, false, false, true]) (fair_round l) rfl rfl rfl trivial (EX.store (v := Value.slice _ _ _) H rfl rfl (i := 4) (l' := [.slice (some ⟨g3, 0, none⟩) (xs.length + 1) c3]) rfl rfl (by simp) sz23 rfl rfl) ?_
            rintro _ w H
            refine FA.all [5] (by kernel_rfl) (by decide) ?_
            refine FO.go (listed' := [true, true, true, true, true, true, false, true]) (fair_round l) rfl rfl rfl trivial (RX.indexAddr rfl rfl sl23 (by omega) (by omega) (o' := xs.length * 3) (by omega)) ?_
            refine FA.all [6] (by kernel_rfl) (by decide) ?_
            refine FO.does (listed' := [true, true, true, true, true, true, true, true]) (fair_round l) rfl rfl rfl trivial (EX.storeAgg H rfl rfl (i := 5) (vs := tv kt nt pt mt ct) (l' := setN l3 (xs.length * 3) (tv kt nt pt mt ct)) rfl tv_cell (by simp only [List.length_cons, List.length_nil]; omega) sz25 rfl rfl) ?_
            rintro _ w H
            refine FA.done (by kernel_rfl) ?_
            intro a2 ha2
            refine (?_ : FC (Fence.wide.inRound l) [] Tryd.prog 26 _ _ _ _) a2 ha2
            replace H : Hp w0 _ ([(l, loopObj .busy 23 a.tmps #[14] asg bdy r)] :: [(r, Obj.deferred (some []))] :: [(b4, cel [.slice (some ⟨g3, 0, none⟩) (xs.length + 1) c3] 23)] :: [(g3, cel (setN l3 (xs.length * 3) (tv kt nt pt mt ct)) 25)] :: ss :: s2 :: (X ++ ([(b3, cel [.bool false] 4)] :: [(b2, cel [.slice none 0 0] 23)] :: [(b1, cel (tv k n p m c) 25)] :: F))) := H.drop.drop
            refine FC.seq ?_
            refine FC.region ?_
            refine FL.go (fair_round l) rfl trivial (RX.load H rfl (i := 2) (v := .slice (some ⟨g3, 0, none⟩) (xs.length + 1) c3) rfl rfl one23) ?_
            refine FL.go (fair_round l) rfl trivial (RX.len_slice rfl (by rw [sl23]; rfl) rfl) ?_
            refine FL.go (fair_round l) rfl trivial (RX.gt rfl rfl) ?_
            refine FL.nil ?_
            intro a3 ha3
            refine (?_ : FC (Fence.wide.inRound l) [] Tryd.prog 26 _ _ _ _) a3 ha3
            refine FC.cond_f (congrArg Value.bool (decide_eq_false (by omega))) ?_
            refine FC.skip fun a4 ha4 => ?_
            refine ⟨_, _, run_endRound none (H.get1 (i := 0) rfl), _, rfl, rfl, _, hfin p2 c2 ys sl ss ho hk g3 c3 l3 ho3, ?_⟩
            replace H := H.putObj (i := 0) (o' := loopObj .ready 23 a.tmps #[14] asg bdy r) rfl
            exact hp_back (G := [_, _, _, _, _]) ((((((((H.pull 5 rfl).pull 5 rfl).join).pull 4 rfl).pull 4 rfl).pull 4 rfl).pull 4 rfl))
        · skip
          refine FO.go (listed' := [true, false, true, true, false, false, false, false]) (fair_round l) rfl rfl rfl trivial (RX.len_slice rfl (by rw [sl23]; rfl) rfl) ?_
          refine FA.all [1] (by kernel_rfl) (by decide) ?_
          refine FO.go (listed' := [true, true, true, true, false, false, false, false]) (fair_round l) rfl rfl rfl trivial (by first | exact RX.loadAgg H rfl (i := 0) (vs := tv kt nt pt mt ct) rfl rfl ag25 | exact RX.loadAgg H rfl (i := 1) (vs := tv kt nt pt mt ct) rfl rfl ag25) ?_
          refine FA.all [4] (by kernel_rfl) (by decide) ?_
          refine FO.does (listed' := [true, true, true, true, true, false, false, false]) (fair_round l) rfl rfl rfl trivial (EX.append (ys := tv 0 0 none 0 0) (L' := fun s' => [(bz, cel (tv 0 0 none 0 0) 25)] :: [(b6, cel (tv kt nt pt mt ct) 25)] :: [(l, loopObj .busy 23 a.tmps #[14] asg bdy r)] :: [(r, Obj.deferred (some []))] :: [(b4, cel [.slice p2 xs.length c2] 23)] :: s' :: ss :: s2 :: (X ++ ([(b3, cel [.bool false] 4)] :: [(b2, cel [.slice none 0 0] 23)] :: [(b1, cel (tv k n p m c) 25)] :: F))) H elO rfl rfl (i := 5) rfl ho (SlAt.here rfl) rfl tv_cell (by decide) (by omega) (by omega) (fun _ => rfl)) ?_
          rintro _ w ⟨p3, c3, sl3, rfl, ho3, H⟩
          obtain ⟨g3, l3, rfl, rfl, hn3, hl3, ht3⟩ := ho3.ptr (by omega)
          refine FA.all [5, 7] (by kernel_rfl) (by decide) ?_
          refine ⟨?_, ?_⟩
          · skip
            refine FO.go (listed' := [true, true, true, true, true, true, false, false]) (fair_round l) rfl rfl rfl trivial (RX.indexAddr rfl rfl sl23 (by omega) (by omega) (o' := xs.length * 3) (by omega)) ?_
            refine FA.all [6, 7] (by kernel_rfl) (by decide) ?_
            refine ⟨?_, ?_⟩
            · skip
              refine FO.does (listed' := [true, true, true, true, true, true, true, false]) (fair_round l) rfl rfl rfl trivial (EX.storeAgg H rfl rfl (i := 5) (vs := tv kt nt pt mt ct) (l' := setN l3 (xs.length * 3) (tv kt nt pt mt ct)) rfl tv_cell (by simp only [List.length_cons, List.length_nil]; omega) sz25 rfl rfl) ?_
              rintro _ w H
              refine FA.all [7] (by kernel_rfl) (by decide) ?_
              refine FO.does (listed' := [true, true, true, true, true, true, true, true]) (fair_round l) rfl rfl rfl trivial (EX.store (v := Value.slice _ _ _) H rfl rfl (i := 4) (l' := [.slice (some ⟨g3, 0, none⟩) (xs.length + 1) c3]) rfl rfl (by simp) sz23 rfl rfl) ?_
              rintro _ w H
              refine FA.done (by kernel_rfl) ?_
              intro a2 ha2
              refine (?_ : FC (Fence.wide.inRound l) [] Tryd.prog 26 _ _ _ _) a2 ha2
              replace H : Hp w0 _ ([(l, loopObj .busy 23 a.tmps #[14] asg bdy r)] :: [(r, Obj.deferred (some []))] :: [(b4, cel [.slice (some ⟨g3, 0, none⟩) (xs.length + 1) c3] 23)] :: [(g3, cel (setN l3 (xs.length * 3) (tv kt nt pt mt ct)) 25)] :: ss :: s2 :: (X ++ ([(b3, cel [.bool false] 4)] :: [(b2, cel [.slice none 0 0] 23)] :: [(b1, cel (tv k n p m c) 25)] :: F))) := H.drop.drop
              refine FC.seq ?_
              refine FC.region ?_
              refine FL.go (fair_round l) rfl trivial (RX.load H rfl (i := 2) (v := .slice (some ⟨g3, 0, none⟩) (xs.length + 1) c3) rfl rfl one23) ?_
              refine FL.go (fair_round l) rfl trivial (RX.len_slice rfl (by rw [sl23]; rfl) rfl) ?_
              refine FL.go (fair_round l) rfl trivial (RX.gt rfl rfl) ?_
              refine FL.nil ?_
              intro a3 ha3
              refine (?_ : FC (Fence.wide.inRound l) [] Tryd.prog 26 _ _ _ _) a3 ha3
              refine FC.cond_f (congrArg Value.bool (decide_eq_false (by omega))) ?_
              refine FC.skip fun a4 ha4 => ?_
              refine ⟨_, _, run_endRound none (H.get1 (i := 0) rfl), _, rfl, rfl, _, hfin p2 c2 ys sl ss ho hk g3 c3 l3 ho3, ?_⟩
              replace H := H.putObj (i := 0) (o' := loopObj .ready 23 a.tmps #[14] asg bdy r) rfl
              exact hp_back (G := [_, _, _, _, _]) ((((((((H.pull 5 rfl).pull 5 rfl).join).pull 4 rfl).pull 4 rfl).pull 4 rfl).pull 4 rfl))
            · skip
              refine FO.does (listed' := [true, true, true, true, true, true, false, true]) (fair_round l) rfl rfl rfl trivial (EX.store (v := Value.slice _ _ _) H rfl rfl (i := 4) (l' := [.slice (some ⟨g3, 0, none⟩) (xs.length + 1) c3]) rfl rfl (by simp) sz23 rfl rfl) ?_
              rintro _ w H
              refine FA.all [6] (by kernel_rfl) (by decide) ?_
              refine FO.does (listed' := [true, true, true, true, true, true, true, true]) (fair_round l) rfl rfl rfl trivial (EX.storeAgg H rfl rfl (i := 5) (vs := tv kt nt pt mt ct) (l' := setN l3 (xs.length * 3) (tv kt nt pt mt ct)) rfl tv_cell (by simp only [List.length_cons, List.length_nil]; omega) sz25 rfl rfl) ?_
              rintro _ w H
              refine FA.done (by kernel_rfl) ?_
              intro a2 ha2
              refine (?_ : FC (Fence.wide.inRound l) [] Tryd.prog 26 _ _ _ _) a2 ha2
              replace H : Hp w0 _ ([(l, loopObj .busy 23 a.tmps #[14] asg bdy r)] :: [(r, Obj.deferred (some []))] :: [(b4, cel [.slice (some ⟨g3, 0, none⟩) (xs.length + 1) c3] 23)] :: [(g3, cel (setN l3 (xs.length * 3) (tv kt nt pt mt ct)) 25)] :: ss :: s2 :: (X ++ ([(b3, cel [.bool false] 4)] :: [(b2, cel [.slice none 0 0] 23)] :: [(b1, cel (tv k n p m c) 25)] :: F))) := H.drop.drop
              refine FC.seq ?_
              refine FC.region ?_
              refine FL.go (fair_round l) rfl trivial (RX.load H rfl (i := 2) (v := .slice (some ⟨g3, 0, none⟩) (xs.length + 1) c3) rfl rfl one23) ?_
              refine FL.go (fair_round l) rfl trivial (RX.len_slice rfl (by rw [sl23]; rfl) rfl) ?_
              refine FL.go (fair_round l) rfl trivial (RX.gt rfl rfl) ?_
              refine FL.nil ?_
              intro a3 ha3
              refine (?_ : FC (Fence.wide.inRound l) [] Tryd.prog 26 _ _ _ _) a3 ha3
              refine FC.cond_f (congrArg Value.bool (decide_eq_false (by omega))) ?_
              refine FC.skip fun a4 ha4 => ?_
              refine ⟨_, _, run_endRound none (H.get1 (i := 0) rfl), _, rfl, rfl, _, hfin p2 c2 ys sl ss ho hk g3 c3 l3 ho3, ?_⟩
              replace H := H.putObj (i := 0) (o' := loopObj .ready 23 a.tmps #[14] asg bdy r) rfl
              exact hp_back (G := [_, _, _, _, _]) ((((((((H.pull 5 rfl).pull 5 rfl).join).pull 4 rfl).pull 4 rfl).pull 4 rfl).pull 4 rfl))
          · skip
            refine FO.does (listed' := [true, true, true, true, true, false, false, true]) (fair_round l) rfl rfl rfl trivial (EX.store (v := Value.slice _ _ _) H rfl rfl (i := 4) (l' := [.slice (some ⟨g3, 0, none⟩) (xs.length + 1) c3]) rfl rfl (by simp) sz23 rfl rfl) ?_
            rintro _ w H
            refine FA.all [5] (by kernel_rfl) (by decide) ?_
            refine FO.go (listed' := [true, true, true, true, true, true, false, true]) (fair_round l) rfl rfl rfl trivial (RX.indexAddr rfl rfl sl23 (by omega) (by omega) (o' := xs.length * 3) (by omega)) ?_
            refine FA.all [6] (by kernel_rfl) (by decide) ?_
            refine FO.does (listed' := [true, true, true, true, true, true, true, true]) (fair_round l) rfl rfl rfl trivial (EX.storeAgg H rfl rfl (i := 5) (vs := tv kt nt pt mt ct) (l' := setN l3 (xs.length * 3) (tv kt nt pt mt ct)) rfl tv_cell (by simp only [List.length_cons, List.length_nil]; omega) sz25 rfl rfl) ?_
            rintro _ w H
            refine FA.done (by kernel_rfl) ?_
            intro a2 ha2
            refine (?_ : FC (Fence.wide.inRound l) [] Tryd.prog 26 _ _ _ _) a2 ha2
            replace H : Hp w0 _ ([(l, loopObj .busy 23 a.tmps #[14] asg bdy r)] :: [(r, Obj.deferred (some []))] :: [(b4, cel [.slice (some ⟨g3, 0, none⟩) (xs.length + 1) c3] 23)] :: [(g3, cel (setN l3 (xs.length * 3) (tv kt nt pt mt ct)) 25)] :: ss :: s2 :: (X ++ ([(b3, cel [.bool false] 4)] :: [(b2, cel [.slice none 0 0] 23)] :: [(b1, cel (tv k n p m c) 25)] :: F))) := H.drop.drop
            refine FC.seq ?_
            refine FC.region ?_
            refine FL.go (fair_round l) rfl trivial (RX.load H rfl (i := 2) (v := .slice (some ⟨g3, 0, none⟩) (xs.length + 1) c3) rfl rfl one23) ?_
            refine FL.go (fair_round l) rfl trivial (RX.len_slice rfl (by rw [sl23]; rfl) rfl) ?_
            refine FL.go (fair_round l) rfl trivial (RX.gt rfl rfl) ?_
            refine FL.nil ?_
            intro a3 ha3
            refine (?_ : FC (Fence.wide.inRound l) [] Tryd.prog 26 _ _ _ _) a3 ha3
            refine FC.cond_f (congrArg Value.bool (decide_eq_false (by omega))) ?_
            refine FC.skip fun a4 ha4 => ?_
            refine ⟨_, _, run_endRound none (H.get1 (i := 0) rfl), _, rfl, rfl, _, hfin p2 c2 ys sl ss ho hk g3 c3 l3 ho3, ?_⟩
            replace H := H.putObj (i := 0) (o' := loopObj .ready 23 a.tmps #[14] asg bdy r) rfl
            exact hp_back (G := [_, _, _, _, _]) ((((((((H.pull 5 rfl).pull 5 rfl).join).pull 4 rfl).pull 4 rfl).pull 4 rfl).pull 4 rfl))
    · skip
      refine FO.go (listed' := [false, true, false, false, false, false, false, false]) (fair_round l) rfl rfl rfl trivial (by first | exact RX.loadAgg H rfl (i := 0) (vs := tv kt nt pt mt ct) rfl rfl ag25 | exact RX.loadAgg H rfl (i := 1) (vs := tv kt nt pt mt ct) rfl rfl ag25) ?_
      refine FA.all [0, 3] (by kernel_rfl) (by decide) ?_
      refine ⟨?_, ?_⟩
      · skip
        refine FO.go (listed' := [true, true, false, false, false, false, false, false]) (fair_round l) rfl rfl rfl trivial (by first | exact RX.load H rfl (i := 3) (v := .slice p2 xs.length c2) rfl rfl one23 | exact RX.load H rfl (i := 4) (v := .slice p2 xs.length c2) rfl rfl one23) ?_
        refine FA.all [2, 3] (by kernel_rfl) (by decide) ?_
        refine ⟨?_, ?_⟩
        · skip
          refine FO.go (listed' := [true, true, true, false, false, false, false, false]) (fair_round l) rfl rfl rfl trivial (RX.len_slice rfl (by rw [sl23]; rfl) rfl) ?_
          refine FA.all [3] (by kernel_rfl) (by decide) ?_
          refine FO.does (listed' := [true, true, true, true, false, false, false, false]) (fair_round l) rfl rfl rfl trivial (EX.buildSlice (pv := [(0, .agg (tv 0 0 none 0 0).toArray)]) (l := tv 0 0 none 0 0) (e := 25) H rfl (by kernel_rfl)) ?_
          rintro _ w ⟨bz, rfl, H⟩
          refine FA.all [4] (by kernel_rfl) (by decide) ?_
          refine FO.does (listed' := [true, true, true, true, true, false, false, false]) (fair_round l) rfl rfl rfl trivial (EX.append (ys := tv 0 0 none 0 0) (L' := fun s' => [(bz, cel (tv 0 0 none 0 0) 25)] :: [(b6, cel (tv kt nt pt mt ct) 25)] :: [(l, loopObj .busy 23 a.tmps #[14] asg bdy r)] :: [(r, Obj.deferred (some []))] :: [(b4, cel [.slice p2 xs.length c2] 23)] :: s' :: ss :: s2 :: (X ++ ([(b3, cel [.bool false] 4)] :: [(b2, cel [.slice none 0 0] 23)] :: [(b1, cel (tv k n p m c) 25)] :: F))) H elO rfl rfl (i := 5) rfl ho (SlAt.here rfl) rfl tv_cell (by decide) (by omega) (by omega) (fun _ => rfl)) ?_
          rintro _ w ⟨p3, c3, sl3, rfl, ho3, H⟩
          obtain ⟨g3, l3, rfl, rfl, hn3, hl3, ht3⟩ := ho3.ptr (by omega)
          refine FA.all [5, 7] (by kernel_rfl) (by decide) ?_
          refine ⟨?_, ?_⟩
          · skip
            refine FO.go (listed' := [true, true, true, true, true, true, false, false]) (fair_round l) rfl rfl rfl trivial (RX.indexAddr rfl rfl sl23 (by omega) (by omega) (o' := xs.length * 3) (by omega)) ?_
            refine FA.all [6, 7] (by kernel_rfl) (by decide) ?_
            refine ⟨?_, ?_⟩
            · skip
              refine FO.does (listed' := [true, true, true, true, true, true, true, false]) (fair_round l) rfl rfl rfl trivial (EX.storeAgg H rfl rfl (i := 5) (vs := tv kt nt pt mt ct) (l' := setN l3 (xs.length * 3) (tv kt nt pt mt ct)) rfl tv_cell (by simp only [List.length_cons, List.length_nil]; omega) sz25 rfl rfl) ?_
              rintro _ w H
              refine FA.all [7] (by kernel_rfl) (by decide) ?_
              refine FO.does (listed' := [true, true, true, true, true, true, true, true]) (fair_round l) rfl rfl rfl trivial (EX.store (v := Value.slice _ _ _) H rfl rfl (i := 4) (l' := [.slice (some ⟨g3, 0, none⟩) (xs.length + 1) c3]) rfl rfl (by simp) sz23 rfl rfl) ?_
              rintro _ w H
              refine FA.done (by kernel_rfl) ?_
              intro a2 ha2
              refine (?_ : FC (Fence.wide.inRound l) [] Tryd.prog 26 _ _ _ _) a2 ha2
              replace H : Hp w0 _ ([(l, loopObj .busy 23 a.tmps #[14] asg bdy r)] :: [(r, Obj.deferred (some []))] :: [(b4, cel [.slice (some ⟨g3, 0, none⟩) (xs.length + 1) c3] 23)] :: [(g3, cel (setN l3 (xs.length * 3) (tv kt nt pt mt ct)) 25)] :: ss :: s2 :: (X ++ ([(b3, cel [.bool false] 4)] :: [(b2, cel [.slice none 0 0] 23)] :: [(b1, cel (tv k n p m c) 25)] :: F))) := H.drop.drop
              refine FC.seq ?_
              refine FC.region ?_
              refine FL.go (fair_round l) rfl trivial (RX.load H rfl (i := 2) (v := .slice (some ⟨g3, 0, none⟩) (xs.length + 1) c3) rfl rfl one23) ?_
              refine FL.go (fair_round l) rfl trivial (RX.len_slice rfl (by rw [sl23]; rfl) rfl) ?_
              refine FL.go (fair_round l) rfl trivial (RX.gt rfl rfl) ?_
              refine FL.nil ?_
              intro a3 ha3
              refine (?_ : FC (Fence.wide.inRound l) [] Tryd.prog 26 _ _ _ _) a3 ha3
              refine FC.cond_f (congrArg Value.bool (decide_eq_false (by omega))) ?_
              refine FC.skip fun a4 ha4 => ?_
              refine ⟨_, _, run_endRound none (H.get1 (i := 0) rfl), _, rfl, rfl, _, hfin p2 c2 ys sl ss ho hk g3 c3 l3 ho3, ?_⟩
              replace H := H.putObj (i := 0) (o' := loopObj .ready 23 a.tmps #[14] asg bdy r) rfl
              exact hp_back (G := [_, _, _, _, _]) ((((((((H.pull 5 rfl).pull 5 rfl).join).pull 4 rfl).pull 4 rfl).pull 4 rfl).pull 4 rfl))
            · skip
              refine FO.does (listed' := [true, true, true, true, true, true, false, true]) (fair_round l) rfl rfl rfl trivial (EX.store (v := Value.slice _ _ _) H rfl rfl (i := 4) (l' := [.slice (some ⟨g3, 0, none⟩) (xs.length + 1) c3]) rfl rfl (by simp) sz23 rfl rfl) ?_
              rintro _ w H
              refine FA.all [6] (by kernel_rfl) (by decide) ?_
              refine FO.does (listed' := [true, true, true, true, true, true, true, true]) (fair_round l) rfl rfl rfl trivial (EX.storeAgg H rfl rfl (i := 5) (vs := tv kt nt pt mt ct) (l' := setN l3 (xs.length * 3) (tv kt nt pt mt ct)) rfl tv_cell (by simp only [List.length_cons, List.length_nil]; omega) sz25 rfl rfl) ?_
              rintro _ w H
              refine FA.done (by kernel_rfl) ?_
              intro a2 ha2
              refine (?_ : FC (Fence.wide.inRound l) [] Tryd.prog 26 _ _ _ _) a2 ha2
              replace H : Hp w0 _ ([(l, loopObj .busy 23 a.tmps #[14] asg bdy r)] :: [(r, Obj.deferred (some []))] :: [(b4, cel [.slice (some ⟨g3, 0, none⟩) (xs.length + 1) c3] 23)] :: [(g3, cel (setN l3 (xs.length * 3) (tv kt nt pt mt ct)) 25)] :: ss :: s2 :: (X ++ ([(b3, cel [.bool false] 4)] :: [(b2, cel [.slice none 0 0] 23)] :: [(b1, cel (tv k n p m c) 25)] :: F))) := H.drop.drop
              refine FC.seq ?_
              refine FC.region ?_
              refine FL.go (fair_round l) rfl trivial (RX.load H rfl (i := 2) (v := .slice (some ⟨g3, 0, none⟩) (xs.length + 1) c3) rfl rfl one23) ?_
              refine FL.go (fair_round l) rfl trivial (RX.len_slice rfl (by rw [sl23]; rfl) rfl) ?_
              refine FL.go (fair_round l) rfl trivial (RX.gt rfl rfl) ?_
              refine FL.nil ?_
              intro a3 ha3
              refine (?_ : FC (Fence.wide.inRound l) [] Tryd.prog 26 _ _ _ _) a3 ha3
              refine FC.cond_f (congrArg Value.bool (decide_eq_false (by omega))) ?_
              refine FC.skip fun a4 ha4 => ?_
              refine ⟨_, _, run_endRound none (H.get1 (i := 0) rfl), _, rfl, rfl, _, hfin p2 c2 ys sl ss ho hk g3 c3 l3 ho3, ?_⟩
              replace H := H.putObj (i := 0) (o' := loopObj .ready 23 a.tmps #[14] asg bdy r) rfl
              exact hp_back (G := [_, _, _, _, _]) ((((((((H.pull 5 rfl).pull 5 rfl).join).pull 4 rfl).pull 4 rfl).pull 4 rfl).pull 4 rfl))
          · skip
            refine FO.does (listed' := [true, true, true, true, true, false, false, true]) (fair_round l) rfl rfl rfl trivial (EX.store (v := Value.slice _ _ _) H rfl rfl (i := 4) (l' := [.slice (some ⟨g3, 0, none⟩) (xs.length + 1) c3]) rfl rfl (by simp) sz23 rfl rfl) ?_
            rintro _ w H
            refine FA.all [5] (by kernel_rfl) (by decide) ?_
            refine FO.go (listed' := [true, true, true, true, true, true, false, true]) (fair_round l) rfl rfl rfl trivial (RX.indexAddr rfl rfl sl23 (by omega) (by omega) (o' := xs.length * 3) (by omega)) ?_
            refine FA.all [6] (by kernel_rfl) (by decide) ?_
            refine FO.does (listed' := [true, true, true, true, true, true, true, true]) (fair_round l) rfl rfl rfl trivial (EX.storeAgg H rfl rfl (i := 5) (vs := tv kt nt pt mt ct) (l' := setN l3 (xs.length * 3) (tv kt nt pt mt ct)) rfl tv_cell (by simp only [List.length_cons, List.length_nil]; omega) sz25 rfl rfl) ?_
            rintro _ w H
            refine FA.done (by kernel_rfl) ?_
            intro a2 ha2
            refine (?_ : FC (Fence.wide.inRound l) [] Tryd.prog 26 _ _ _ _) a2 ha2
            replace H : Hp w0 _ ([(l, loopObj .busy 23 a.tmps #[14] asg bdy r)] :: [(r, Obj.deferred (some []))] :: [(b4, cel [.slice (some ⟨g3, 0, none⟩) (xs.length + 1) c3] 23)] :: [(g3, cel (setN l3 (xs.length * 3) (tv kt nt pt mt ct)) 25)] :: ss :: s2 :: (X ++ ([(b3, cel [.bool false] 4)] :: [(b2, cel [.slice none 0 0] 23)] :: [(b1, cel (tv k n p m c) 25)] :: F))) := H.drop.drop
            refine FC.seq ?_
            refine FC.region ?_
            refine FL.go (fair_round l) rfl trivial (RX.load H rfl (i := 2) (v := .slice (some ⟨g3, 0, none⟩) (xs.length + 1) c3) rfl rfl one23) ?_
            refine FL.go (fair_round l) rfl trivial (RX.len_slice rfl (by rw [sl23]; rfl) rfl) ?_
            refine FL.go (fair_round l) rfl trivial (RX.gt rfl rfl) ?_
            refine FL.nil ?_
            intro a3 ha3
            refine (?_ : FC (Fence.wide.inRound l) [] Tryd.prog 26 _ _ _ _) a3 ha3
            refine FC.cond_f (congrArg Value.bool (decide_eq_false (by omega))) ?_
            refine FC.skip fun a4 ha4 => ?_
            refine ⟨_, _, run_endRound none (H.get1 (i := 0) rfl), _, rfl, rfl, _, hfin p2 c2 ys sl ss ho hk g3 c3 l3 ho3, ?_⟩
            replace H := H.putObj (i := 0) (o' := loopObj .ready 23 a.tmps #[14] asg bdy r) rfl
            exact hp_back (G := [_, _, _, _, _]) ((((((((H.pull 5 rfl).pull 5 rfl).join).pull 4 rfl).pull 4 rfl).pull 4 rfl).pull 4 rfl))
        · skip
          refine FO.does (listed' := [true, true, false, true, false, false, false, false]) (fair_round l) rfl rfl rfl trivial (EX.buildSlice (pv := [(0, .agg (tv 0 0 none 0 0).toArray)]) (l := tv 0 0 none 0 0) (e := 25) H rfl (by kernel_rfl)) ?_
          rintro _ w ⟨bz, rfl, H⟩
          refine FA.all [2] (by kernel_rfl) (by decide) ?_
          refine FO.go (listed' := [true, true, true, true, false, false, false, false]) (fair_round l) rfl rfl rfl trivial (RX.len_slice rfl (by rw [sl23]; rfl) rfl) ?_
          refine FA.all [4] (by kernel_rfl) (by decide) ?_
          refine FO.does (listed' := [true, true, true, true, true, false, false, false]) (fair_round l) rfl rfl rfl trivial (EX.append (ys := tv 0 0 none 0 0) (L' := fun s' => [(bz, cel (tv 0 0 none 0 0) 25)] :: [(b6, cel (tv kt nt pt mt ct) 25)] :: [(l, loopObj .busy 23 a.tmps #[14] asg bdy r)] :: [(r, Obj.deferred (some []))] :: [(b4, cel [.slice p2 xs.length c2] 23)] :: s' :: ss :: s2 :: (X ++ ([(b3, cel [.bool false] 4)] :: [(b2, cel [.slice none 0 0] 23)] :: [(b1, cel (tv k n p m c) 25)] :: F))) H elO rfl rfl (i := 5) rfl ho (SlAt.here rfl) rfl tv_cell (by decide) (by omega) (by omega) (fun _ => rfl)) ?_
          rintro _ w ⟨p3, c3, sl3, rfl, ho3, H⟩
          obtain ⟨g3, l3, rfl, rfl, hn3, hl3, ht3⟩ := ho3.ptr (by omega)
          refine FA.all [5, 7] (by kernel_rfl) (by decide) ?_
          refine ⟨?_, ?_⟩
          · skip
            refine FO.go (listed' := [true, true, true, true, true, true, false, false]) (fair_round l) rfl rfl rfl trivial (RX.indexAddr rfl rfl sl23 (by omega) (by omega) (o' := xs.length * 3) (by omega)) ?_
            refine FA.all [6, 7] (by kernel_rfl) (by decide) ?_
            refine ⟨?_, ?_⟩
            · skip
              refine FO.does (listed' := [true, true, true, true, true, true, true, false]) (fair_round l) rfl rfl rfl trivial (EX.storeAgg H rfl rfl (i := 5) (vs := tv kt nt pt mt ct) (l' := setN l3 (xs.length * 3) (tv kt nt pt mt ct)) rfl tv_cell (by simp only [List.length_cons, List.length_nil]; omega) sz25 rfl rfl) ?_
              rintro _ w H
              refine FA.all [7] (by kernel_rfl) (by decide) ?_
              refine FO.does (listed' := [true, true, true, true, true, true, true, true]) (fair_round l) rfl rfl rfl trivial (EX.store (v := Value.slice _ _ _) H rfl rfl (i := 4) (l' := [.slice (some ⟨g3, 0, none⟩) (xs.length + 1) c3]) rfl rfl (by simp) sz23 rfl rfl) ?_
              rintro _ w H
              refine FA.done (by kernel_rfl) ?_
              intro a2 ha2
              refine (?_ : FC (Fence.wide.inRound l) [] Tryd.prog 26 _ _ _ _) a2 ha2
              replace H : Hp w0 _ ([(l, loopObj .busy 23 a.tmps #[14] asg bdy r)] :: [(r, Obj.deferred (some []))] :: [(b4, cel [.slice (some ⟨g3, 0, none⟩) (xs.length + 1) c3] 23)] :: [(g3, cel (setN l3 (xs.length * 3) (tv kt nt pt mt ct)) 25)] :: ss :: s2 :: (X ++ ([(b3, cel [.bool false] 4)] :: [(b2, cel [.slice none 0 0] 23)] :: [(b1, cel (tv k n p m c) 25)] :: F))) := H.drop.drop
              refine FC.seq ?_
              refine FC.region ?_
              refine FL.go (fair_round l) rfl trivial (RX.load H rfl (i := 2) (v := .slice (some ⟨g3, 0, none⟩) (xs.length + 1) c3) rfl rfl one23) ?_
              refine FL.go (fair_round l) rfl trivial (RX.len_slice rfl (by rw [sl23]; rfl) rfl) ?_
              refine FL.go (fair_round l) rfl trivial (RX.gt rfl rfl) ?_
              refine FL.nil ?_
              intro a3 ha3
              refine (?_ : FC (Fence.wide.inRound l) [] Tryd.prog 26 _ _ _ _) a3 ha3
              refine FC.cond_f (congrArg Value.bool (decide_eq_false (by omega))) ?_
              refine FC.skip fun a4 ha4 => ?_
              refine ⟨_, _, run_endRound none (H.get1 (i := 0) rfl), _, rfl, rfl, _, hfin p2 c2 ys sl ss ho hk g3 c3 l3 ho3, ?_⟩
              replace H := H.putObj (i := 0) (o' := loopObj .ready 23 a.tmps #[14] asg bdy r) rfl
              exact hp_back (G := [_, _, _, _, _]) ((((((((H.pull 5 rfl).pull 5 rfl).join).pull 4 rfl).pull 4 rfl).pull 4 rfl).pull 4 rfl))
            · skip
              refine FO.does (listed' := [true, true, true, true, true, true, false, true]) (fair_round l) rfl rfl rfl trivial (EX.store (v := Value.slice _ _ _) H rfl rfl (i := 4) (l' := [.slice (some ⟨g3, 0, none⟩) (xs.length + 1) c3]) rfl rfl (by simp) sz23 rfl rfl) ?_
              rintro _ w H
              refine FA.all [6] (by kernel_rfl) (by decide) ?_
              refine FO.does (listed' := [true, true, true, true, true, true, true, true]) (fair_round l) rfl rfl rfl trivial (EX.storeAgg H rfl rfl (i := 5) (vs := tv kt nt pt mt ct) (l' := setN l3 (xs.length * 3) (tv kt nt pt mt ct)) rfl tv_cell (by simp only [List.length_cons, List.length_nil]; omega) sz25 rfl rfl) ?_
              rintro _ w H
              refine FA.done (by kernel_rfl) ?_
              intro a2 ha2
              refine (?_ : FC (Fence.wide.inRound l) [] Tryd.prog 26 _ _ _ _) a2 ha2
              replace H : Hp w0 _ ([(l, loopObj .busy 23 a.tmps #[14] asg bdy r)] :: [(r, Obj.deferred (some []))] :: [(b4, cel [.slice (some ⟨g3, 0, none⟩) (xs.length + 1) c3] 23)] :: [(g3, cel (setN l3 (xs.length * 3) (tv kt nt pt mt ct)) 25)] :: ss :: s2 :: (X ++ ([(b3, cel [.bool false] 4)] :: [(b2, cel [.slice none 0 0] 23)] :: [(b1, cel (tv k n p m c) 25)] :: F))) := H.drop.drop
              refine FC.seq ?_
              refine FC.region ?_
              refine FL.go (fair_round l) rfl trivial (RX.load H rfl (i := 2) (v := .slice (some ⟨g3, 0, none⟩) (xs.length + 1) c3) rfl rfl one23) ?_
              refine FL.go (fair_round l) rfl trivial (RX.len_slice rfl (by rw [sl23]; rfl) rfl) ?_
              refine FL.go (fair_round l) rfl trivial (RX.gt rfl rfl) ?_
              refine FL.nil ?_
              intro a3 ha3
              refine (?_ : FC (Fence.wide.inRound l) [] Tryd.prog 26 _ _ _ _) a3 ha3
              refine FC.cond_f (congrArg Value.bool (decide_eq_false (by omega))) ?_
              refine FC.skip fun a4 ha4 => ?_
              refine ⟨_, _, run_endRound none (H.get1 (i := 0) rfl), _, rfl, rfl, _, hfin p2 c2 ys sl ss ho hk g3 c3 l3 ho3, ?_⟩
              replace H := H.putObj (i := 0) (o' := loopObj .ready 23 a.tmps #[14] asg bdy r) rfl
              exact hp_back (G := [_, _, _, _, _]) ((((((((H.pull 5 rfl).pull 5 rfl).join).pull 4 rfl).pull 4 rfl).pull 4 rfl).pull 4 rfl))
          · skip
            refine FO.does (listed' := [true, true, true, true, true, false, false, true]) (fair_round l) rfl rfl rfl trivial (EX.store (v := Value.slice _ _ _) H rfl rfl (i := 4) (l' := [.slice (some ⟨g3, 0, none⟩) (xs.length + 1) c3]) rfl rfl (by simp) sz23 rfl rfl) ?_
            rintro _ w H
            refine FA.all [5] (by kernel_rfl) (by decide) ?_
            refine FO.go (listed' := [true, true, true, true, true, true, false, true]) (fair_round l) rfl rfl rfl trivial (RX.indexAddr rfl rfl sl23 (by omega) (by omega) (o' := xs.length * 3) (by omega)) ?_
            refine FA.all [6] (by kernel_rfl) (by decide) ?_
            refine FO.does (listed' := [true, true, true, true, true, true, true, true]) (fair_round l) rfl rfl rfl trivial (EX.storeAgg H rfl rfl (i := 5) (vs := tv kt nt pt mt ct) (l' := setN l3 (xs.length * 3) (tv kt nt pt mt ct)) rfl tv_cell (by simp only [List.length_cons, List.length_nil]; omega) sz25 rfl rfl) ?_
            rintro _ w H
            refine FA.done (by kernel_rfl) ?_
            intro a2 ha2
            refine (?_ : FC (Fence.wide.inRound l) [] Tryd.prog 26 _ _ _ _) a2 ha2
            replace H : Hp w0 _ ([(l, loopObj .busy 23 a.tmps #[14] asg bdy r)] :: [(r, Obj.deferred (some []))] :: [(b4, cel [.slice (some ⟨g3, 0, none⟩) (xs.length + 1) c3] 23)] :: [(g3, cel (setN l3 (xs.length * 3) (tv kt nt pt mt ct)) 25)] :: ss :: s2 :: (X ++ ([(b3, cel [.bool false] 4)] :: [(b2, cel [.slice none 0 0] 23)] :: [(b1, cel (tv k n p m c) 25)] :: F))) := H.drop.drop
            refine FC.seq ?_
            refine FC.region ?_
            refine FL.go (fair_round l) rfl trivial (RX.load H rfl (i := 2) (v := .slice (some ⟨g3, 0, none⟩) (xs.length + 1) c3) rfl rfl one23) ?_
            refine FL.go (fair_round l) rfl trivial (RX.len_slice rfl (by rw [sl23]; rfl) rfl) ?_
            refine FL.go (fair_round l) rfl trivial (RX.gt rfl rfl) ?_
            refine FL.nil ?_
            intro a3 ha3
            refine (?_ : FC (Fence.wide.inRound l) [] Tryd.prog 26 _ _ _ _) a3 ha3
            refine FC.cond_f (congrArg Value.bool (decide_eq_false (by omega))) ?_
            refine FC.skip fun a4 ha4 => ?_
            refine ⟨_, _, run_endRound none (H.get1 (i := 0) rfl), _, rfl, rfl, _, hfin p2 c2 ys sl ss ho hk g3 c3 l3 ho3, ?_⟩
            replace H := H.putObj (i := 0) (o' := loopObj .ready 23 a.tmps #[14] asg bdy r) rfl
            exact hp_back (G := [_, _, _, _, _]) ((((((((H.pull 5 rfl).pull 5 rfl).join).pull 4 rfl).pull 4 rfl).pull 4 rfl).pull 4 rfl))
      · skip
        refine FO.does (listed' := [false, true, false, true, false, false, false, false]) (fair_round l) rfl rfl rfl trivial (EX.buildSlice (pv := [(0, .agg (tv 0 0 none 0 0).toArray)]) (l := tv 0 0 none 0 0) (e := 25) H rfl (by kernel_rfl)) ?_
        rintro _ w ⟨bz, rfl, H⟩
        refine FA.all [0] (by kernel_rfl) (by decide) ?_
        refine FO.go (listed' := [true, true, false, true, false, false, false, false]) (fair_round l) rfl rfl rfl trivial (by first | exact RX.load H rfl (i := 3) (v := .slice p2 xs.length c2) rfl rfl one23 | exact RX.load H rfl (i := 4) (v := .slice p2 xs.length c2) rfl rfl one23) ?_
        refine FA.all [2] (by kernel_rfl) (by decide) ?_
        refine FO.go (listed' := [true, true, true, true, false, false, false, false]) (fair_round l) rfl rfl rfl trivial (RX.len_slice rfl (by rw [sl23]; rfl) rfl) ?_
        refine FA.all [4] (by kernel_rfl) (by decide) ?_
        refine FO.does (listed' := [true, true, true, true, true, false, false, false]) (fair_round l) rfl rfl rfl trivial (EX.append (ys := tv 0 0 none 0 0) (L' := fun s' => [(bz, cel (tv 0 0 none 0 0) 25)] :: [(b6, cel (tv kt nt pt mt ct) 25)] :: [(l, loopObj .busy 23 a.tmps #[14] asg bdy r)] :: [(r, Obj.deferred (some []))] :: [(b4, cel [.slice p2 xs.length c2] 23)] :: s' :: ss :: s2 :: (X ++ ([(b3, cel [.bool false] 4)] :: [(b2, cel [.slice none 0 0] 23)] :: [(b1, cel (tv k n p m c) 25)] :: F))) H elO rfl rfl (i := 5) rfl ho (SlAt.here rfl) rfl tv_cell (by decide) (by omega) (by omega) (fun _ => rfl)) ?_
        rintro _ w ⟨p3, c3, sl3, rfl, ho3, H⟩
        obtain ⟨g3, l3, rfl, rfl, hn3, hl3, ht3⟩ := ho3.ptr (by omega)
        refine FA.all [5, 7] (by kernel_rfl) (by decide) ?_
        refine ⟨?_, ?_⟩
        · skip
          refine FO.go (listed' := [true, true, true, true, true, true, false, false]) (fair_round l) rfl rfl rfl trivial (RX.indexAddr rfl rfl sl23 (by omega) (by omega) (o' := xs.length * 3) (by omega)) ?_
          refine FA.all [6, 7] (by kernel_rfl) (by decide) ?_
          refine ⟨?_, ?_⟩
          · skip
            refine FO.does (listed' := [true, true, true, true, true, true, true, false]) (fair_round l) rfl rfl rfl trivial (EX.storeAgg H rfl rfl (i := 5) (vs := tv kt nt pt mt ct) (l' := setN l3 (xs.length * 3) (tv kt nt pt mt ct)) rfl tv_cell (by simp only [List.length_cons, List.length_nil]; omega) sz25 rfl rfl) ?_
            rintro _ w H
            refine FA.all [7] (by kernel_rfl) (by decide) ?_
            refine FO.does (listed' := [true, true, true, true, true, true, true, true]) (fair_round l) rfl rfl rfl trivial (EX.store (v := Value.slice _ _ _) H rfl rfl (i := 4) (l' := [.slice (some ⟨g3, 0, none⟩) (xs.length + 1) c3]) rfl rfl (by simp) sz23 rfl rfl) ?_
            rintro _ w H
            refine FA.done (by kernel_rfl) ?_
            intro a2 ha2
            refine (?_ : FC (Fence.wide.inRound l) [] Tryd.prog 26 _ _ _ _) a2 ha2
            replace H : Hp w0 _ ([(l, loopObj .busy 23 a.tmps #[14] asg bdy r)] :: [(r, Obj.deferred (some []))] :: [(b4, cel [.slice (some ⟨g3, 0, none⟩) (xs.length + 1) c3] 23)] :: [(g3, cel (setN l3 (xs.length * 3) (tv kt nt pt mt ct)) 25)] :: ss :: s2 :: (X ++ ([(b3, cel [.bool false] 4)] :: [(b2, cel [.slice none 0 0] 23)] :: [(b1, cel (tv k n p m c) 25)] :: F))) := H.drop.drop
            refine FC.seq ?_
            refine FC.region ?_
            refine FL.go (fair_round l) rfl trivial (RX.load H rfl (i := 2) (v := .slice (some ⟨g3, 0, none⟩) (xs.length + 1) c3) rfl rfl one23) ?_
            refine FL.go (fair_round l) rfl trivial (RX.len_slice rfl (by rw [sl23]; rfl) rfl) ?_
            refine FL.go (fair_round l) rfl trivial (RX.gt rfl rfl) ?_
            refine FL.nil ?_
            intro a3 ha3
            refine (?_ : FC (Fence.wide.inRound l) [] Tryd.prog 26 _ _ _ _) a3 ha3
            refine FC.cond_f (congrArg Value.bool (decide_eq_false (by omega))) ?_
            refine FC.skip fun a4 ha4 => ?_
            refine ⟨_, _, run_endRound none (H.get1 (i := 0) rfl), _, rfl, rfl, _, hfin p2 c2 ys sl ss ho hk g3 c3 l3 ho3, ?_⟩
            replace H := H.putObj (i := 0) (o' := loopObj .ready 23 a.tmps #[14] asg bdy r) rfl
            exact hp_back (G := [_, _, _, _, _]) ((((((((H.pull 5 rfl).pull 5 rfl).join).pull 4 rfl).pull 4 rfl).pull 4 rfl).pull 4 rfl))
          · skip
            refine FO.does (listed' := [true, true, true, true, true, true, false, true]) (fair_round l) rfl rfl rfl trivial (EX.store (v := Value.slice _ _ _) H rfl rfl (i := 4) (l' := [.slice (some ⟨g3, 0, none⟩) (xs.length + 1) c3]) rfl rfl (by simp) sz23 rfl rfl) ?_
            rintro _ w H
            refine FA.all [6] (by kernel_rfl) (by decide) ?_
            refine FO.does (listed' := [true, true, true, true, true, true, true, true]) (fair_round l) rfl rfl rfl trivial (EX.storeAgg H rfl rfl (i := 5) (vs := tv kt nt pt mt ct) (l' := setN l3 (xs.length * 3) (tv kt nt pt mt ct)) rfl tv_cell (by simp only [List.length_cons, List.length_nil]; omega) sz25 rfl rfl) ?_
            rintro _ w H
            refine FA.done (by kernel_rfl) ?_
            intro a2 ha2
            refine (?_ : FC (Fence.wide.inRound l) [] Tryd.prog 26 _ _ _ _) a2 ha2
            replace H : Hp w0 _ ([(l, loopObj .busy 23 a.tmps #[14] asg bdy r)] :: [(r, Obj.deferred (some []))] :: [(b4, cel [.slice (some ⟨g3, 0, none⟩) (xs.length + 1) c3] 23)] :: [(g3, cel (setN l3 (xs.length * 3) (tv kt nt pt mt ct)) 25)] :: ss :: s2 :: (X ++ ([(b3, cel [.bool false] 4)] :: [(b2, cel [.slice none 0 0] 23)] :: [(b1, cel (tv k n p m c) 25)] :: F))) := H.drop.drop
            refine FC.seq ?_
            refine FC.region ?_
            refine FL.go (fair_round l) rfl trivial (RX.load H rfl (i := 2) (v := .slice (some ⟨g3, 0, none⟩) (xs.length + 1) c3) rfl rfl one23) ?_
            refine FL.go (fair_round l) rfl trivial (RX.len_slice rfl (by rw [sl23]; rfl) rfl) ?_
            refine FL.go (fair_round l) rfl trivial (RX.gt rfl rfl) ?_
            refine FL.nil ?_
            intro a3 ha3
            refine (?_ : FC (Fence.wide.inRound l) [] Tryd.prog 26 _ _ _ _) a3 ha3
            refine FC.cond_f (congrArg Value.bool (decide_eq_false (by omega))) ?_
            refine FC.skip fun a4 ha4 => ?_
            refine ⟨_, _, run_endRound none (H.get1 (i := 0) rfl), _, rfl, rfl, _, hfin p2 c2 ys sl ss ho hk g3 c3 l3 ho3, ?_⟩
            replace H := H.putObj (i := 0) (o' := loopObj .ready 23 a.tmps #[14] asg bdy r) rfl
            exact hp_back (G := [_, _, _, _, _]) ((((((((H.pull 5 rfl).pull 5 rfl).join).pull 4 rfl).pull 4 rfl).pull 4 rfl).pull 4 rfl))
        · skip
          refine FO.does (listed' := [true, true, true, true, true, false, false, true]) (fair_round l) rfl rfl rfl trivial (EX.store (v := Value.slice _ _ _) H rfl rfl (i := 4) (l' := [.slice (some ⟨g3, 0, none⟩) (xs.length + 1) c3]) rfl rfl (by simp) sz23 rfl rfl) ?_
          rintro _ w H
          refine FA.all [5] (by kernel_rfl) (by decide) ?_
          refine FO.go (listed' := [true, true, true, true, true, true, false, true]) (fair_round l) rfl rfl rfl trivial (RX.indexAddr rfl rfl sl23 (by omega) (by omega) (o' := xs.length * 3) (by omega)) ?_
          refine FA.all [6] (by kernel_rfl) (by decide) ?_
          refine FO.does (listed' := [true, true, true, true, true, true, true, true]) (fair_round l) rfl rfl rfl trivial (EX.storeAgg H rfl rfl (i := 5) (vs := tv kt nt pt mt ct) (l' := setN l3 (xs.length * 3) (tv kt nt pt mt ct)) rfl tv_cell (by simp only [List.length_cons, List.length_nil]; omega) sz25 rfl rfl) ?_
          rintro _ w H
          refine FA.done (by kernel_rfl) ?_
          intro a2 ha2
          refine (?_ : FC (Fence.wide.inRound l) [] Tryd.prog 26 _ _ _ _) a2 ha2
          replace H : Hp w0 _ ([(l, loopObj .busy 23 a.tmps #[14] asg bdy r)] :: [(r, Obj.deferred (some []))] :: [(b4, cel [.slice (some ⟨g3, 0, none⟩) (xs.length + 1) c3] 23)] :: [(g3, cel (setN l3 (xs.length * 3) (tv kt nt pt mt ct)) 25)] :: ss :: s2 :: (X ++ ([(b3, cel [.bool false] 4)] :: [(b2, cel [.slice none 0 0] 23)] :: [(b1, cel (tv k n p m c) 25)] :: F))) := H.drop.drop
          refine FC.seq ?_
          refine FC.region ?_
          refine FL.go (fair_round l) rfl trivial (RX.load H rfl (i := 2) (v := .slice (some ⟨g3, 0, none⟩) (xs.length + 1) c3) rfl rfl one23) ?_
          refine FL.go (fair_round l) rfl trivial (RX.len_slice rfl (by rw [sl23]; rfl) rfl) ?_
          refine FL.go (fair_round l) rfl trivial (RX.gt rfl rfl) ?_
          refine FL.nil ?_
          intro a3 ha3
          refine (?_ : FC (Fence.wide.inRound l) [] Tryd.prog 26 _ _ _ _) a3 ha3
          refine FC.cond_f (congrArg Value.bool (decide_eq_false (by omega))) ?_
          refine FC.skip fun a4 ha4 => ?_
          refine ⟨_, _, run_endRound none (H.get1 (i := 0) rfl), _, rfl, rfl, _, hfin p2 c2 ys sl ss ho hk g3 c3 l3 ho3, ?_⟩
          replace H := H.putObj (i := 0) (o' := loopObj .ready 23 a.tmps #[14] asg bdy r) rfl
          exact hp_back (G := [_, _, _, _, _]) ((((((((H.pull 5 rfl).pull 5 rfl).join).pull 4 rfl).pull 4 rfl).pull 4 rfl).pull 4 rfl))
    · skip
      refine FO.does (listed' := [false, false, false, true, false, false, false, false]) (fair_round l) rfl rfl rfl trivial (EX.buildSlice (pv := [(0, .agg (tv 0 0 none 0 0).toArray)]) (l := tv 0 0 none 0 0) (e := 25) H rfl (by kernel_rfl)) ?_
      rintro _ w ⟨bz, rfl, H⟩
      refine FA.all [0, 1] (by kernel_rfl) (by decide) ?_
      refine ⟨?_, ?_⟩
      · skip
        refine FO.go (listed' := [true, false, false, true, false, false, false, false]) (fair_round l) rfl rfl rfl trivial (by first | exact RX.load H rfl (i := 3) (v := .slice p2 xs.length c2) rfl rfl one23 | exact RX.load H rfl (i := 4) (v := .slice p2 xs.length c2) rfl rfl one23) ?_
        refine FA.all [1, 2] (by kernel_rfl) (by decide) ?_
        refine ⟨?_, ?_⟩
        · skip
          refine FO.go (listed' := [true, true, false, true, false, false, false, false]) (fair_round l) rfl rfl rfl trivial (by first | exact RX.loadAgg H rfl (i := 0) (vs := tv kt nt pt mt ct) rfl rfl ag25 | exact RX.loadAgg H rfl (i := 1) (vs := tv kt nt pt mt ct) rfl rfl ag25) ?_
          refine FA.all [2] (by kernel_rfl) (by decide) ?_
          refine FO.go (listed' := [true, true, true, true, false, false, false, false]) (fair_round l) rfl rfl rfl trivial (RX.len_slice rfl (by rw [sl23]; rfl) rfl) ?_
          refine FA.all [4] (by kernel_rfl) (by decide) ?_
          refine FO.does (listed' := [true, true, true, true, true, false, false, false]) (fair_round l) rfl rfl rfl trivial (EX.append (ys := tv 0 0 none 0 0) (L' := fun s' => [(bz, cel (tv 0 0 none 0 0) 25)] :: [(b6, cel (tv kt nt pt mt ct) 25)] :: [(l, loopObj .busy 23 a.tmps #[14] asg bdy r)] :: [(r, Obj.deferred (some []))] :: [(b4, cel [.slice p2 xs.length c2] 23)] :: s' :: ss :: s2 :: (X ++ ([(b3, cel [.bool false] 4)] :: [(b2, cel [.slice none 0 0] 23)] :: [(b1, cel (tv k n p m c) 25)] :: F))) H elO rfl rfl (i := 5) rfl ho (SlAt.here rfl) rfl tv_cell (by decide) (by omega) (by omega) (fun _ => rfl)) ?_
          rintro _ w ⟨p3, c3, sl3, rfl, ho3, H⟩
          obtain ⟨g3, l3, rfl, rfl, hn3, hl3, ht3⟩ := ho3.ptr (by omega)
          refine FA.all [5, 7] (by kernel_rfl) (by decide) ?_
          refine ⟨?_, ?_⟩
          · skip
            refine FO.go (listed' := [true, true, true, true, true, true, false, false]) (fair_round l) rfl rfl rfl trivial (RX.indexAddr rfl rfl sl23 (by omega) (by omega) (o' := xs.length * 3) (by omega)) ?_
            refine FA.all [6, 7] (by kernel_rfl) (by decide) ?_
            refine ⟨?_, ?_⟩
            · skip
              refine FO.does (listed' := [true, true, true, true, true, true, true, false]) (fair_round l) rfl rfl rfl trivial (EX.storeAgg H rfl rfl (i := 5) (vs := tv kt nt pt mt ct) (l' := setN l3 (xs.length * 3) (tv kt nt pt mt ct)) rfl tv_cell (by simp only [List.length_cons, List.length_nil]; omega) sz25 rfl rfl) ?_
              rintro _ w H
              refine FA.all [7] (by kernel_rfl) (by decide) ?_
              refine FO.does (listed' := [true, true, true, true, true, true, true, true]) (fair_round l) rfl rfl rfl trivial (EX.store (v := Value.slice _ _ _) H rfl rfl (i := 4) (l' := [.slice (some ⟨g3, 0, none⟩) (xs.length + 1) c3]) rfl rfl (by simp) sz23 rfl rfl) ?_
              rintro _ w H
              refine FA.done (by kernel_rfl) ?_
              intro a2 ha2
              refine (?_ : FC (Fence.wide.inRound l) [] Tryd.prog 26 _ _ _ _) a2 ha2
              replace H : Hp w0 _ ([(l, loopObj .busy 23 a.tmps #[14] asg bdy r)] :: [(r, Obj.deferred (some []))] :: [(b4, cel [.slice (some ⟨g3, 0, none⟩) (xs.length + 1) c3] 23)] :: [(g3, cel (setN l3 (xs.length * 3) (tv kt nt pt mt ct)) 25)] :: ss :: s2 :: (X ++ ([(b3, cel [.bool false] 4)] :: [(b2, cel [.slice none 0 0] 23)] :: [(b1, cel (tv k n p m c) 25)] :: F))) := H.drop.drop
              refine FC.seq ?_
              refine FC.region ?_
              refine FL.go (fair_round l) rfl trivial (RX.load H rfl (i := 2) (v := .slice (some ⟨g3, 0, none⟩) (xs.length + 1) c3) rfl rfl one23) ?_
              refine FL.go (fair_round l) rfl trivial (RX.len_slice rfl (by rw [sl23]; rfl) rfl) ?_
              refine FL.go (fair_round l) rfl trivial (RX.gt rfl rfl) ?_
              refine FL.nil ?_
              intro a3 ha3
              refine (?_ : FC (Fence.wide.inRound l) [] Tryd.prog 26 _ _ _ _) a3 ha3
              refine FC.cond_f (congrArg Value.bool (decide_eq_false (by omega))) ?_
              refine FC.skip fun a4 ha4 => ?_
              refine ⟨_, _, run_endRound none (H.get1 (i := 0) rfl), _, rfl, rfl, _, hfin p2 c2 ys sl ss ho hk g3 c3 l3 ho3, ?_⟩
              replace H := H.putObj (i := 0) (o' := loopObj .ready 23 a.tmps #[14] asg bdy r) rfl
              exact hp_back (G := [_, _, _, _, _]) ((((((((H.pull 5 rfl).pull 5 rfl).join).pull 4 rfl).pull 4 rfl).pull 4 rfl).pull 4 rfl))
            · skip
              refine FO.does (listed' := [true, true, true, true, true, true, false, true]) (fair_round l) rfl rfl rfl trivial (EX.store (v := Value.slice _ _ _) H rfl rfl (i := 4) (l' := [.slice (some ⟨g3, 0, none⟩) (xs.length + 1) c3]) rfl rfl (by simp) sz23 rfl rfl) ?_
              rintro _ w H
              refine FA.all [6] (by kernel_rfl) (by decide) ?_
              refine FO.does (listed' := [true, true, true, true, true, true, true, true]) (fair_round l) rfl rfl rfl trivial (EX.storeAgg H rfl rfl (i := 5) (vs := tv kt nt pt mt ct) (l' := setN l3 (xs.length * 3) (tv kt nt pt mt ct)) rfl tv_cell (by simp only [List.length_cons, List.length_nil]; omega) sz25 rfl rfl) ?_
              rintro _ w H
              refine FA.done (by kernel_rfl) ?_
              intro a2 ha2
              refine (?_ : FC (Fence.wide.inRound l) [] Tryd.prog 26 _ _ _ _) a2 ha2
              replace H : Hp w0 _ ([(l, loopObj .busy 23 a.tmps #[14] asg bdy r)] :: [(r, Obj.deferred (some []))] :: [(b4, cel [.slice (some ⟨g3, 0, none⟩) (xs.length + 1) c3] 23)] :: [(g3, cel (setN l3 (xs.length * 3) (tv kt nt pt mt ct)) 25)] :: ss :: s2 :: (X ++ ([(b3, cel [.bool false] 4)] :: [(b2, cel [.slice none 0 0] 23)] :: [(b1, cel (tv k n p m c) 25)] :: F))) := H.drop.drop
              refine FC.seq ?_
              refine FC.region ?_
              refine FL.go (fair_round l) rfl trivial (RX.load H rfl (i := 2) (v := .slice (some ⟨g3, 0, none⟩) (xs.length + 1) c3) rfl rfl one23) ?_
              refine FL.go (fair_round l) rfl trivial (RX.len_slice rfl (by rw [sl23]; rfl) rfl) ?_
              refine FL.go (fair_round l) rfl trivial (RX.gt rfl rfl) ?_
              refine FL.nil ?_
              intro a3 ha3
              refine (?_ : FC (Fence.wide.inRound l) [] Tryd.prog 26 _ _ _ _) a3 ha3
              refine FC.cond_f (congrArg Value.bool (decide_eq_false (by omega))) ?_
              refine FC.skip fun a4 ha4 => ?_
              refine ⟨_, _, run_endRound none (H.get1 (i := 0) rfl), _, rfl, rfl, _, hfin p2 c2 ys sl ss ho hk g3 c3 l3 ho3, ?_⟩
              replace H := H.putObj (i := 0) (o' := loopObj .ready 23 a.tmps #[14] asg bdy r) rfl
              exact hp_back (G := [_, _, _, _, _]) ((((((((H.pull 5 rfl).pull 5 rfl).join).pull 4 rfl).pull 4 rfl).pull 4 rfl).pull 4 rfl))
          · skip
            refine FO.does (listed' := [true, true, true, true, true, false, false, true]) (fair_round l) rfl rfl rfl trivial (EX.store (v := Value.slice _ _ _) H rfl rfl (i := 4) (l' := [.slice (some ⟨g3, 0, none⟩) (xs.length + 1) c3]) rfl rfl (by simp) sz23 rfl rfl) ?_
            rintro _ w H
            refine FA.all [5] (by kernel_rfl) (by decide) ?_
            refine FO.go (listed' := [true, true, true, true, true, true, false, true]) (fair_round l) rfl rfl rfl trivial (RX.indexAddr rfl rfl sl23 (by omega) (by omega) (o' := xs.length * 3) (by omega)) ?_
            refine FA.all [6] (by kernel_rfl) (by decide) ?_
            refine FO.does (listed' := [true, true, true, true, true, true, true, true]) (fair_round l) rfl rfl rfl trivial (EX.storeAgg H rfl rfl (i := 5) (vs := tv kt nt pt mt ct) (l' := setN l3 (xs.length * 3) (tv kt nt pt mt ct)) rfl tv_cell (by simp only [List.length_cons, List.length_nil]; omega) sz25 rfl rfl) ?_
            rintro _ w H
            refine FA.done (by kernel_rfl) ?_
            intro a2 ha2
            refine (?_ : FC (Fence.wide.inRound l) [] Tryd.prog 26 _ _ _ _) a2 ha2
            replace H : Hp w0 _ ([(l, loopObj .busy 23 a.tmps #[14] asg bdy r)] :: [(r, Obj.deferred (some []))] :: [(b4, cel [.slice (some ⟨g3, 0, none⟩) (xs.length + 1) c3] 23)] :: [(g3, cel (setN l3 (xs.length * 3) (tv kt nt pt mt ct)) 25)] :: ss :: s2 :: (X ++ ([(b3, cel [.bool false] 4)] :: [(b2, cel [.slice none 0 0] 23)] :: [(b1, cel (tv k n p m c) 25)] :: F))) := H.drop.drop
            refine FC.seq ?_
            refine FC.region ?_
            refine FL.go (fair_round l) rfl trivial (RX.load H rfl (i := 2) (v := .slice (some ⟨g3, 0, none⟩) (xs.length + 1) c3) rfl rfl one23) ?_
            refine FL.go (fair_round l) rfl trivial (RX.len_slice rfl (by rw [sl23]; rfl) rfl) ?_
            refine FL.go (fair_round l) rfl trivial (RX.gt rfl rfl) ?_
            refine FL.nil ?_
            intro a3 ha3
            refine (?_ : FC (Fence.wide.inRound l) [] Tryd.prog 26 _ _ _ _) a3 ha3
            refine FC.cond_f (congrArg Value.bool (decide_eq_false (by omega))) ?_
            refine FC.skip fun a4 ha4 => ?_
            refine ⟨_, _, run_endRound none (H.get1 (i := 0) rfl), _, rfl, rfl, _, hfin p2 c2 ys sl ss ho hk g3 c3 l3 ho3, ?_⟩
            replace H := H.putObj (i := 0) (o' := loopObj .ready 23 a.tmps #[14] asg bdy r) rfl
            exact hp_back (G := [_, _, _, _, _]) ((((((((H.pull 5 rfl).pull 5 rfl).join).pull 4 rfl).pull 4 rfl).pull 4 rfl).pull 4 rfl))
        · skip
          refine FO.go (listed' := [true, false, true, true, false, false, false, false]) (fair_round l) rfl rfl rfl trivial (RX.len_slice rfl (by rw [sl23]; rfl) rfl) ?_
          refine FA.all [1] (by kernel_rfl) (by decide) ?_
          refine FO.go (listed' := [true, true, true, true, false, false, false, false]) (fair_round l) rfl rfl rfl trivial (by first | exact RX.loadAgg H rfl (i := 0) (vs := tv kt nt pt mt ct) rfl rfl ag25 | exact RX.loadAgg H rfl (i := 1) (vs := tv kt nt pt mt ct) rfl rfl ag25) ?_
          refine FA.all [4] (by kernel_rfl) (by decide) ?_
          refine FO.does (listed' := [true, true, true, true, true, false, false, false]) (fair_round l) rfl rfl rfl trivial (EX.append (ys := tv 0 0 none 0 0) (L' := fun s' => [(bz, cel (tv 0 0 none 0 0) 25)] :: [(b6, cel (tv kt nt pt mt ct) 25)] :: [(l, loopObj .busy 23 a.tmps #[14] asg bdy r)] :: [(r, Obj.deferred (some []))] :: [(b4, cel [.slice p2 xs.length c2] 23)] :: s' :: ss :: s2 :: (X ++ ([(b3, cel [.bool false] 4)] :: [(b2, cel [.slice none 0 0] 23)] :: [(b1, cel (tv k n p m c) 25)] :: F))) H elO rfl rfl (i := 5) rfl ho (SlAt.here rfl) rfl tv_cell (by decide) (by omega) (by omega) (fun _ => rfl)) ?_
          rintro _ w ⟨p3, c3, sl3, rfl, ho3, H⟩
          obtain ⟨g3, l3, rfl, rfl, hn3, hl3, ht3⟩ := ho3.ptr (by omega)
          refine FA.all [5, 7] (by kernel_rfl) (by decide) ?_
          refine ⟨?_, ?_⟩
          · skip
            refine FO.go (listed' := [true, true, true, true, true, true, false, false]) (fair_round l) rfl rfl rfl trivial (RX.indexAddr rfl rfl sl23 (by omega) (by omega) (o' := xs.length * 3) (by omega)) ?_
            refine FA.all [6, 7] (by kernel_rfl) (by decide) ?_
            refine ⟨?_, ?_⟩
            · skip
              refine FO.does (listed' := [true, true, true, true, true, true, true, false]) (fair_round l) rfl rfl rfl trivial (EX.storeAgg H rfl rfl (i := 5) (vs := tv kt nt pt mt ct) (l' := setN l3 (xs.length * 3) (tv kt nt pt mt ct)) rfl tv_cell (by simp only [List.length_cons, List.length_nil]; omega) sz25 rfl rfl) ?_
              rintro _ w H
              refine FA.all [7] (by kernel_rfl) (by decide) ?_
              refine FO.does (listed' := [true, true, true, true, true, true, true, true]) (fair_round l) rfl rfl rfl trivial (EX.store (v := Value.slice _ _ _) H rfl rfl (i := 4) (l' := [.slice (some ⟨g3, 0, none⟩) (xs.length + 1) c3]) rfl rfl (by simp) sz23 rfl rfl) ?_
              rintro _ w H
              refine FA.done (by kernel_rfl) ?_
              intro a2 ha2
              refine (?_ : FC (Fence.wide.inRound l) [] Tryd.prog 26 _ _ _ _) a2 ha2
              replace H : Hp w0 _ ([(l, loopObj .busy 23 a.tmps #[14] asg bdy r)] :: [(r, Obj.deferred (some []))] :: [(b4, cel [.slice (some ⟨g3, 0, none⟩) (xs.length + 1) c3] 23)] :: [(g3, cel (setN l3 (xs.length * 3) (tv kt nt pt mt ct)) 25)] :: ss :: s2 :: (X ++ ([(b3, cel [.bool false] 4)] :: [(b2, cel [.slice none 0 0] 23)] :: [(b1, cel (tv k n p m c) 25)] :: F))) := H.drop.drop
              refine FC.seq ?_
              refine FC.region ?_
              refine FL.go (fair_round l) rfl trivial (RX.load H rfl (i := 2) (v := .slice (some ⟨g3, 0, none⟩) (xs.length + 1) c3) rfl rfl one23) ?_
              refine FL.go (fair_round l) rfl trivial (RX.len_slice rfl (by rw [sl23]; rfl) rfl) ?_
              refine FL.go (fair_round l) rfl trivial (RX.gt rfl rfl) ?_
              refine FL.nil ?_
              intro a3 ha3
              refine (?_ : FC (Fence.wide.inRound l) [] Tryd.prog 26 _ _ _ _) a3 ha3
              refine FC.cond_f (congrArg Value.bool (decide_eq_false (by omega))) ?_
              refine FC.skip fun a4 ha4 => ?_
              refine ⟨_, _, run_endRound none (H.get1 (i := 0) rfl), _, rfl, rfl, _, hfin p2 c2 ys sl ss ho hk g3 c3 l3 ho3, ?_⟩
              replace H := H.putObj (i := 0) (o' := loopObj .ready 23 a.tmps #[14] asg bdy r) rfl
              exact hp_back (G := [_, _, _, _, _]) ((((((((H.pull 5 rfl).pull 5 rfl).join).pull 4 rfl).pull 4 rfl).pull 4 rfl).pull 4 rfl))
            · skip
              refine FO.does (listed' := [true, true, true, true, true, true, false, true]) (fair_round l) rfl rfl rfl trivial (EX.store (v := Value.slice _ _ _) H rfl rfl (i := 4) (l' := [.slice (some ⟨g3, 0, none⟩) (xs.length + 1) c3]) rfl rfl (by simp) sz23 rfl rfl) ?_
              rintro _ w H
              refine FA.all [6] (by kernel_rfl) (by decide) ?_
              refine FO.does (listed' := [true, true, true, true, true, true, true, true]) (fair_round l) rfl rfl rfl trivial (EX.storeAgg H rfl rfl (i := 5) (vs := tv kt nt pt mt ct) (l' := setN l3 (xs.length * 3) (tv kt nt pt mt ct)) rfl tv_cell (by simp only [List.length_cons, List.length_nil]; omega) sz25 rfl rfl) ?_
              rintro _ w H
              refine FA.done (by kernel_rfl) ?_
              intro a2 ha2
              refine (?_ : FC (Fence.wide.inRound l) [] Tryd.prog 26 _ _ _ _) a2 ha2
              replace H : Hp w0 _ ([(l, loopObj .busy 23 a.tmps #[14] asg bdy r)] :: [(r, Obj.deferred (some []))] :: [(b4, cel [.slice (some ⟨g3, 0, none⟩) (xs.length + 1) c3] 23)] :: [(g3, cel (setN l3 (xs.length * 3) (tv kt nt pt mt ct)) 25)] :: ss :: s2 :: (X ++ ([(b3, cel [.bool false] 4)] :: [(b2, cel [.slice none 0 0] 23)] :: [(b1, cel (tv k n p m c) 25)] :: F))) := H.drop.drop
              refine FC.seq ?_
              refine FC.region ?_
              refine FL.go (fair_round l) rfl trivial (RX.load H rfl (i := 2) (v := .slice (some ⟨g3, 0, none⟩) (xs.length + 1) c3) rfl rfl one23) ?_
              refine FL.go (fair_round l) rfl trivial (RX.len_slice rfl (by rw [sl23]; rfl) rfl) ?_
              refine FL.go (fair_round l) rfl trivial (RX.gt rfl rfl) ?_
              refine FL.nil ?_
              intro a3 ha3
              refine (?_ : FC (Fence.wide.inRound l) [] Tryd.prog 26 _ _ _ _) a3 ha3
              refine FC.cond_f (congrArg Value.bool (decide_eq_false (by omega))) ?_
              refine FC.skip fun a4 ha4 => ?_
              refine ⟨_, _, run_endRound none (H.get1 (i := 0) rfl), _, rfl, rfl, _, hfin p2 c2 ys sl ss ho hk g3 c3 l3 ho3, ?_⟩
              replace H := H.putObj (i := 0) (o' := loopObj .ready 23 a.tmps #[14] asg bdy r) rfl
              exact hp_back (G := [_, _, _, _, _]) ((((((((H.pull 5 rfl).pull 5 rfl).join).pull 4 rfl).pull 4 rfl).pull 4 rfl).pull 4 rfl))
          · skip
            refine FO.does (listed' := [true, true, true, true, true, false, false, true]) (fair_round l) rfl rfl rfl trivial (EX.store (v := Value.slice _ _ _) H rfl rfl (i := 4) (l' := [.slice (some ⟨g3, 0, none⟩) (xs.length + 1) c3]) rfl rfl (by simp) sz23 rfl rfl) ?_
            rintro _ w H
            refine FA.all [5] (by kernel_rfl) (by decide) ?_
            refine FO.go (listed' := [true, true, true, true, true, true, false, true]) (fair_round l) rfl rfl rfl trivial (RX.indexAddr rfl rfl sl23 (by omega) (by omega) (o' := xs.length * 3) (by omega)) ?_
            refine FA.all [6] (by kernel_rfl) (by decide) ?_
            refine FO.does (listed' := [true, true, true, true, true, true, true, true]) (fair_round l) rfl rfl rfl trivial (EX.storeAgg H rfl rfl (i := 5) (vs := tv kt nt pt mt ct) (l' := setN l3 (xs.length * 3) (tv kt nt pt mt ct)) rfl tv_cell (by simp only [List.length_cons, List.length_nil]; omega) sz25 rfl rfl) ?_
            rintro _ w H
            refine FA.done (by kernel_rfl) ?_
            intro a2 ha2
            refine (?_ : FC (Fence.wide.inRound l) [] Tryd.prog 26 _ _ _ _) a2 ha2
            replace H : Hp w0 _ ([(l, loopObj .busy 23 a.tmps #[14] asg bdy r)] :: [(r, Obj.deferred (some []))] :: [(b4, cel [.slice (some ⟨g3, 0, none⟩) (xs.length + 1) c3] 23)] :: [(g3, cel (setN l3 (xs.length * 3) (tv kt nt pt mt ct)) 25)] :: ss :: s2 :: (X ++ ([(b3, cel [.bool false] 4)] :: [(b2, cel [.slice none 0 0] 23)] :: [(b1, cel (tv k n p m c) 25)] :: F))) := H.drop.drop
            refine FC.seq ?_
            refine FC.region ?_
            refine FL.go (fair_round l) rfl trivial (RX.load H rfl (i := 2) (v := .slice (some ⟨g3, 0, none⟩) (xs.length + 1) c3) rfl rfl one23) ?_
            refine FL.go (fair_round l) rfl trivial (RX.len_slice rfl (by rw [sl23]; rfl) rfl) ?_
            refine FL.go (fair_round l) rfl trivial (RX.gt rfl rfl) ?_
            refine FL.nil ?_
            intro a3 ha3
            refine (?_ : FC (Fence.wide.inRound l) [] Tryd.prog 26 _ _ _ _) a3 ha3
            refine FC.cond_f (congrArg Value.bool (decide_eq_false (by omega))) ?_
            refine FC.skip fun a4 ha4 => ?_
            refine ⟨_, _, run_endRound none (H.get1 (i := 0) rfl), _, rfl, rfl, _, hfin p2 c2 ys sl ss ho hk g3 c3 l3 ho3, ?_⟩
            replace H := H.putObj (i := 0) (o' := loopObj .ready 23 a.tmps #[14] asg bdy r) rfl
            exact hp_back (G := [_, _, _, _, _]) ((((((((H.pull 5 rfl).pull 5 rfl).join).pull 4 rfl).pull 4 rfl).pull 4 rfl).pull 4 rfl))
      · skip
        refine FO.go (listed' := [false, true, false, true, false, false, false, false]) (fair_round l) rfl rfl rfl trivial (by first | exact RX.loadAgg H rfl (i := 0) (vs := tv kt nt pt mt ct) rfl rfl ag25 | exact RX.loadAgg H rfl (i := 1) (vs := tv kt nt pt mt ct) rfl rfl ag25) ?_
        refine FA.all [0] (by kernel_rfl) (by decide) ?_
        refine FO.go (listed' := [true, true, false, true, false, false, false, false]) (fair_round l) rfl rfl rfl trivial (by first | exact RX.load H rfl (i := 3) (v := .slice p2 xs.length c2) rfl rfl one23 | exact RX.load H rfl (i := 4) (v := .slice p2 xs.length c2) rfl rfl one23) ?_
        refine FA.all [2] (by kernel_rfl) (by decide) ?_
        refine FO.go (listed' := [true, true, true, true, false, false, false, false]) (fair_round l) rfl rfl rfl trivial (RX.len_slice rfl (by rw [sl23]; rfl) rfl) ?_
        refine FA.all [4] (by kernel_rfl) (by decide) ?_
        refine FO.does (listed' := [true, true, true, true, true, false, false, false]) (fair_round l) rfl rfl rfl trivial (EX.append (ys := tv 0 0 none 0 0) (L' := fun s' => [(bz, cel (tv 0 0 none 0 0) 25)] :: [(b6, cel (tv kt nt pt mt ct) 25)] :: [(l, loopObj .busy 23 a.tmps #[14] asg bdy r)] :: [(r, Obj.deferred (some []))] :: [(b4, cel [.slice p2 xs.length c2] 23)] :: s' :: ss :: s2 :: (X ++ ([(b3, cel [.bool false] 4)] :: [(b2, cel [.slice none 0 0] 23)] :: [(b1, cel (tv k n p m c) 25)] :: F))) H elO rfl rfl (i := 5) rfl ho (SlAt.here rfl) rfl tv_cell (by decide) (by omega) (by omega) (fun _ => rfl)) ?_
        rintro _ w ⟨p3, c3, sl3, rfl, ho3, H⟩
        obtain ⟨g3, l3, rfl, rfl, hn3, hl3, ht3⟩ := ho3.ptr (by omega)
        refine FA.all [5, 7] (by kernel_rfl) (by decide) ?_
        refine ⟨?_, ?_⟩
        · skip
          refine FO.go (listed' := [true, true, true, true, true, true, false, false]) (fair_round l) rfl rfl rfl trivial (RX.indexAddr rfl rfl sl23 (by omega) (by omega) (o' := xs.length * 3) (by omega)) ?_
          refine FA.all [6, 7] (by kernel_rfl) (by decide) ?_
          refine ⟨?_, ?_⟩
          · skip
            refine FO.does (listed' := [true, true, true, true, true, true, true, false]) (fair_round l) rfl rfl rfl trivial (EX.storeAgg H rfl rfl (i := 5) (vs := tv kt nt pt mt ct) (l' := setN l3 (xs.length * 3) (tv kt nt pt mt ct)) rfl tv_cell (by simp only [List.length_cons, List.length_nil]; omega) sz25 rfl rfl) ?_
            rintro _ w H
            refine FA.all [7] (by kernel_rfl) (by decide) ?_
            refine FO.does (listed' := [true, true, true, true, true, true, true, true]) (fair_round l) rfl rfl rfl trivial (EX.store (v := Value.slice _ _ _) H rfl rfl (i := 4) (l' := [.slice (some ⟨g3, 0, none⟩) (xs.length + 1) c3]) rfl rfl (by simp) sz23 rfl rfl) ?_
            rintro _ w H
            refine FA.done (by kernel_rfl) ?_
            intro a2 ha2
            refine (?_ : FC (Fence.wide.inRound l) [] Tryd.prog 26 _ _ _ _) a2 ha2
            replace H : Hp w0 _ ([(l, loopObj .busy 23 a.tmps #[14] asg bdy r)] :: [(r, Obj.deferred (some []))] :: [(b4, cel [.slice (some ⟨g3, 0, none⟩) (xs.length + 1) c3] 23)] :: [(g3, cel (setN l3 (xs.length * 3) (tv kt nt pt mt ct)) 25)] :: ss :: s2 :: (X ++ ([(b3, cel [.bool false] 4)] :: [(b2, cel [.slice none 0 0] 23)] :: [(b1, cel (tv k n p m c) 25)] :: F))) := H.drop.drop
            refine FC.seq ?_
            refine FC.region ?_
            refine FL.go (fair_round l) rfl trivial (RX.load H rfl (i := 2) (v := .slice (some ⟨g3, 0, none⟩) (xs.length + 1) c3) rfl rfl one23) ?_
            refine FL.go (fair_round l) rfl trivial (RX.len_slice rfl (by rw [sl23]; rfl) rfl) ?_
            refine FL.go (fair_round l) rfl trivial (RX.gt rfl rfl) ?_
            refine FL.nil ?_
            intro a3 ha3
            refine (?_ : FC (Fence.wide.inRound l) [] Tryd.prog 26 _ _ _ _) a3 ha3
            refine FC.cond_f (congrArg Value.bool (decide_eq_false (by omega))) ?_
            refine FC.skip fun a4 ha4 => ?_
            refine ⟨_, _, run_endRound none (H.get1 (i := 0) rfl), _, rfl, rfl, _, hfin p2 c2 ys sl ss ho hk g3 c3 l3 ho3, ?_⟩
            replace H := H.putObj (i := 0) (o' := loopObj .ready 23 a.tmps #[14] asg bdy r) rfl
            exact hp_back (G := [_, _, _, _, _]) ((((((((H.pull 5 rfl).pull 5 rfl).join).pull 4 rfl).pull 4 rfl).pull 4 rfl).pull 4 rfl))
          · skip
            refine FO.does (listed' := [true, true, true, true, true, true, false, true]) (fair_round l) rfl rfl rfl trivial (EX.store (v := Value.slice _ _ _) H rfl rfl (i := 4) (l' := [.slice (some ⟨g3, 0, none⟩) (xs.length + 1) c3]) rfl rfl (by simp) sz23 rfl rfl) ?_
            rintro _ w H
            refine FA.all [6] (by kernel_rfl) (by decide) ?_
            refine FO.does (listed' := [true, true, true, true, true, true, true, true]) (fair_round l) rfl rfl rfl trivial (EX.storeAgg H rfl rfl (i := 5) (vs := tv kt nt pt mt ct) (l' := setN l3 (xs.length * 3) (tv kt nt pt mt ct)) rfl tv_cell (by simp only [List.length_cons, List.length_nil]; omega) sz25 rfl rfl) ?_
            rintro _ w H
            refine FA.done (by kernel_rfl) ?_
            intro a2 ha2
            refine (?_ : FC (Fence.wide.inRound l) [] Tryd.prog 26 _ _ _ _) a2 ha2
            replace H : Hp w0 _ ([(l, loopObj .busy 23 a.tmps #[14] asg bdy r)] :: [(r, Obj.deferred (some []))] :: [(b4, cel [.slice (some ⟨g3, 0, none⟩) (xs.length + 1) c3] 23)] :: [(g3, cel (setN l3 (xs.length * 3) (tv kt nt pt mt ct)) 25)] :: ss :: s2 :: (X ++ ([(b3, cel [.bool false] 4)] :: [(b2, cel [.slice none 0 0] 23)] :: [(b1, cel (tv k n p m c) 25)] :: F))) := H.drop.drop
            refine FC.seq ?_
            refine FC.region ?_
            refine FL.go (fair_round l) rfl trivial (RX.load H rfl (i := 2) (v := .slice (some ⟨g3, 0, none⟩) (xs.length + 1) c3) rfl rfl one23) ?_
            refine FL.go (fair_round l) rfl trivial (RX.len_slice rfl (by rw [sl23]; rfl) rfl) ?_
            refine FL.go (fair_round l) rfl trivial (RX.gt rfl rfl) ?_
            refine FL.nil ?_
            intro a3 ha3
            refine (?_ : FC (Fence.wide.inRound l) [] Tryd.prog 26 _ _ _ _) a3 ha3
            refine FC.cond_f (congrArg Value.bool (decide_eq_false (by omega))) ?_
            refine FC.skip fun a4 ha4 => ?_
            refine ⟨_, _, run_endRound none (H.get1 (i := 0) rfl), _, rfl, rfl, _, hfin p2 c2 ys sl ss ho hk g3 c3 l3 ho3, ?_⟩
            replace H := H.putObj (i := 0) (o' := loopObj .ready 23 a.tmps #[14] asg bdy r) rfl
            exact hp_back (G := [_, _, _, _, _]) ((((((((H.pull 5 rfl).pull 5 rfl).join).pull 4 rfl).pull 4 rfl).pull 4 rfl).pull 4 rfl))
        · skip
          refine FO.does (listed' := [true, true, true, true, true, false, false, true]) (fair_round l) rfl rfl rfl trivial (EX.store (v := Value.slice _ _ _) H rfl rfl (i := 4) (l' := [.slice (some ⟨g3, 0, none⟩) (xs.length + 1) c3]) rfl rfl (by simp) sz23 rfl rfl) ?_
          rintro _ w H
          refine FA.all [5] (by kernel_rfl) (by decide) ?_
          refine FO.go (listed' := [true, true, true, true, true, true, false, true]) (fair_round l) rfl rfl rfl trivial (RX.indexAddr rfl rfl sl23 (by omega) (by omega) (o' := xs.length * 3) (by omega)) ?_
          refine FA.all [6] (by kernel_rfl) (by decide) ?_
          refine FO.does (listed' := [true, true, true, true, true, true, true, true]) (fair_round l) rfl rfl rfl trivial (EX.storeAgg H rfl rfl (i := 5) (vs := tv kt nt pt mt ct) (l' := setN l3 (xs.length * 3) (tv kt nt pt mt ct)) rfl tv_cell (by simp only [List.length_cons, List.length_nil]; omega) sz25 rfl rfl) ?_
          rintro _ w H
          refine FA.done (by kernel_rfl) ?_
          intro a2 ha2
          refine (?_ : FC (Fence.wide.inRound l) [] Tryd.prog 26 _ _ _ _) a2 ha2
          replace H : Hp w0 _ ([(l, loopObj .busy 23 a.tmps #[14] asg bdy r)] :: [(r, Obj.deferred (some []))] :: [(b4, cel [.slice (some ⟨g3, 0, none⟩) (xs.length + 1) c3] 23)] :: [(g3, cel (setN l3 (xs.length * 3) (tv kt nt pt mt ct)) 25)] :: ss :: s2 :: (X ++ ([(b3, cel [.bool false] 4)] :: [(b2, cel [.slice none 0 0] 23)] :: [(b1, cel (tv k n p m c) 25)] :: F))) := H.drop.drop
          refine FC.seq ?_
          refine FC.region ?_
          refine FL.go (fair_round l) rfl trivial (RX.load H rfl (i := 2) (v := .slice (some ⟨g3, 0, none⟩) (xs.length + 1) c3) rfl rfl one23) ?_
          refine FL.go (fair_round l) rfl trivial (RX.len_slice rfl (by rw [sl23]; rfl) rfl) ?_
          refine FL.go (fair_round l) rfl trivial (RX.gt rfl rfl) ?_
          refine FL.nil ?_
          intro a3 ha3
          refine (?_ : FC (Fence.wide.inRound l) [] Tryd.prog 26 _ _ _ _) a3 ha3
          refine FC.cond_f (congrArg Value.bool (decide_eq_false (by omega))) ?_
          refine FC.skip fun a4 ha4 => ?_
          refine ⟨_, _, run_endRound none (H.get1 (i := 0) rfl), _, rfl, rfl, _, hfin p2 c2 ys sl ss ho hk g3 c3 l3 ho3, ?_⟩
          replace H := H.putObj (i := 0) (o' := loopObj .ready 23 a.tmps #[14] asg bdy r) rfl
          exact hp_back (G := [_, _, _, _, _]) ((((((((H.pull 5 rfl).pull 5 rfl).join).pull 4 rfl).pull 4 rfl).pull 4 rfl).pull 4 rfl))
  rw [← hl]
  refine Calls.mono (seq_b (N := 5000) (A := Acc l r b4 (loopObj .ready 23 a.tmps #[14] asg bdy r)) (X := [[(bt, cel (tv k1 n1 p1 m1 c1) 25)], s1]) (G := [[(l, loopObj .ready 23 a.tmps #[14] asg bdy r)], [(r, Obj.deferred (some []))], [(b4, cel [.slice (some ⟨bo, 0, none⟩) 0 0] 23)], [(bo, cel [] 25)], []]) (F := [(b3, cel [.bool false] 4)] :: [(b2, cel [.slice none 0 0] 23)] :: [(b1, cel (tv k n p m c) 25)] :: F) (xs := []) (by omega) hY (SlAt.here rfl) ho1.is.cons ⟨some ⟨bo, 0, none⟩, 0, [], _, _, rfl, OwnSl.empty, KidsOwn.nil⟩ (by simp only [List.length_nil]; omega) ?_) ?_
  · exact ((((((H.nil.pull 6 rfl).pull 6 rfl).pull 4 rfl).pull 4 rfl).pull 6 rfl).pull 6 rfl)
  rintro e w3 ⟨v, he, _, G1, ⟨p3, c3, ys, sl, ss, rfl, ho, hk⟩, H⟩
  rw [List.nil_append] at ho hk H
  refine ⟨v, he, 2, _, H, rfl, fun w H => ?_⟩
  refine J.inBlock ?_
  refine J.seq ?_
  replace H : Hp w0 w ([(bt, cel (tv k1 n1 p1 m1 c1) 25)] :: s1 :: [(l, loopObj .exhausted 23 a.tmps #[14] asg bdy r)] :: [(r, Obj.deferred (some []))] :: [(b4, cel [.slice p3 t.lvs.length c3] 23)] :: sl :: ss :: [(b3, cel [.bool false] 4)] :: [(b2, cel [.slice none 0 0] 23)] :: [(b1, cel (tv k n p m c) 25)] :: F) := H
  refine J.region ?_
  refine JL.go trivial (RX.load H rfl (i := 4) (v := .slice p3 t.lvs.length c3) rfl rfl one23) ?_
  refine JL.does trivial (EX.store (v := Value.slice _ _ _) H rfl rfl (i := 8) (l' := [.slice p3 t.lvs.length c3]) rfl rfl (by simp) sz23 rfl rfl) ?_
  rintro _ w H
  refine JL.does trivial (EX.store (v := Value.bool _) H rfl rfl (i := 7) (l' := [.bool true]) rfl rfl (by simp) sz4 rfl rfl) ?_
  rintro _ w H
  refine JL.nil ?_
  refine J.ret_mark Tryd.func23 H (i := 3) rfl ?_
  intro w2 a2 ha2 H
  refine ⟨_, results_cc ha2 rfl rfl rfl H (i := 8) (j := 7) rfl rfl one23 one4, ?_⟩
  exact ⟨_, rfl, p3, c3, ys, sl, ss, rfl, ho, hk, ((H.drop.drop.drop.drop.drop.pull 2 rfl).drop.pull 2 rfl).drop.pull 2 rfl |>.drop⟩
end Go.Proofs.YtinbeaaloailnaaDoor
