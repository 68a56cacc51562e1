/- The law's sizes; TablesCounts. -/
import Derived.Test.YtmppcnbkfjeabaaDoorSo
namespace Go.Proofs.YtmppcnbkfjeabaaDoor
open Go Go.Eng
set_option maxRecDepth 100000
set_option linter.unusedVariables false
set_option linter.unusedSimpArgs false
theorem cl18 : callable Tryd.prog 18 = true := by kernel_rfl
theorem cl22 : callable Tryd.prog 22 = true := by kernel_rfl
theorem cl47 : callable Tryd.prog 47 = true := by kernel_rfl
theorem ki3 : kindOf Tryd.prog 3 = some .i64 := by kernel_rfl
theorem ki41 : kindOf Tryd.prog 41 = some .u64 := by kernel_rfl
theorem one4 : oneOf Tryd.prog 4 = true := by kernel_rfl
theorem sl40 : sliceOf Tryd.prog 40 = some (4, 1) := by kernel_rfl
theorem sz4 : szOf Tryd.prog 4 = some 1 := by kernel_rfl
theorem ud4 : Tryd.prog.underlying 4 = some .bool := by kernel_rfl
theorem zr22 : (Tryd.prog.info? 22).bind (·.zero) = some (.slice none 0 0) := by kernel_rfl
theorem zr4 : (Tryd.prog.info? 4).bind (·.zero) = some (.bool false) := by kernel_rfl

section
variable {P : Program} {w w0 : World} {L : List Seg} {ρ : Operand → Value} {d : Option Tmp} {x y : Operand} {ty : TypeId} {pos : String} {af : Array Edge} {g : Option (Nat × Bool)}
def isFuncT (P : Program) (t : TypeId) : Bool := match P.underlying t with | some (.func ..) => true | _ => false
theorem RX.funcnil_eql {t t' : TypeId} {fn : Fn} {u z : Array Value} (hx : ρ x = .func fn u z) (hy : ρ y = .nilFunc) (ht : isFuncT P t = true) : Runs P ρ ⟨d, .binOp .eql t x y t', ty, pos, af, g⟩ w (.bool false) := by
  have hu : ∃ a b c, P.underlying t = some (.func a b c) := by
    unfold isFuncT at ht
    split at ht
    · rename_i a b c h
      exact ⟨a, b, c, h⟩
    · cases ht
  obtain ⟨a, b, c, hu⟩ := hu
  have h0 : (Op.equal t (.func fn u z) .nilFunc).run P w = .ok false w := by
    unfold Op.equal Op.maxDepth Op.equalIn
    simp only [Sem.run_bind, run_underlying hu, Result.andThen_ok]
    rfl
  have h1 : (binOp .eql t (.func fn u z) .nilFunc).run P w = .ok (.bool false) w := by
    simp only [binOp]; simp [h0]
  unfold Runs
  simp [execOp, hx, hy, eqGuard_at_func, h1]
end
theorem run_loadOne {P : Program} {w0 w : World} {L : List Seg} {t T b i : Nat} {v : Value} (H : Hp w0 w L) (hi : L[i]? = some [(b, cel [v] T)]) (ht : oneOf P t = true) : (loadVar t ⟨b, 0, none⟩).run P w = .ok v w := by
  have := RX.load (P := P) (ρ := fun _ => .pointer (some ⟨b, 0, none⟩)) (d := none) (ty := 0) (pos := "") (af := #[]) (g := none) (x := .tmp 0) H rfl hi (o := 0) rfl ht
  unfold Runs at this
  simp only [execOp, Instr.loadAt, Instr.sureAddr, Sem.run_bind, Sem.run_pure, Result.andThen_ok] at this
  generalize (loadVar t ⟨b, 0, none⟩).run P w = r at this
  cases r with
  | halt h w2 => cases this
  | ok v w2 => simp at this; rw [this.1, this.2]
section
variable {P : Program} {w w0 : World} {L : List Seg}
theorem results_cc {n : Nat} {D : List Deferred} {σ : Env} {fn : Func} {a t u tu b2 b3 i j T2 T3 : Nat} {x y : Value} {ac : Act} (ha : Ag D n σ ac) (h : fn.results = #[.cell a t, .cell u tu])
    (hp2 : ev n σ (.tmp a) = .pointer (some ⟨b2, 0, none⟩)) (hp3 : ev n σ (.tmp u) = .pointer (some ⟨b3, 0, none⟩)) (H : Hp w0 w L)
    (hi : L[i]? = some [(b2, cel [x] T2)]) (hj : L[j]? = some [(b3, cel [y] T3)]) (ht : oneOf P t = true) (hu : oneOf P tu = true) : (results fn ac.tmps).run P w = .ok (.tuple #[x, y]) w := by
  have h1 := ha.tmp a
  have h2 := ha.tmp u
  rw [hp2, Array.getD_eq_getD_getElem?] at h1
  rw [hp3, Array.getD_eq_getD_getElem?] at h2
  have e1 := run_loadOne (P := P) H hi ht
  have e2 := run_loadOne (P := P) H hj hu
  simp [results, h, h1, h2, asAddr, e1, e2]
end
theorem slAt_behind {L : List Seg} {p : Option Addr} {xs : List Value} {cap r : Nat} (h : SlAt L p xs) (hc : xs.length ≤ cap) : SlAt L (behind p cap r 1) (xs.drop r) := by
  have h2 := h.behind (cap := cap) (r := r) (sz := 1) (by omega)
  rwa [Nat.mul_one] at h2
theorem intsV_take (l : List Int) (j : Nat) : intsV (l.take j) = (intsV l).take j := by simp [intsV, List.map_take]
theorem intsV_drop (l : List Int) (j : Nat) : intsV (l.drop j) = (intsV l).drop j := by simp [intsV, List.map_drop]
def boolsV (l : List Bool) : List Value := l.map Value.bool
theorem boolsV_len (l : List Bool) : (boolsV l).length = l.length := by simp [boolsV]
theorem boolsV_get {l : List Bool} {i : Nat} {k : Bool} (h : l[i]? = some k) : (boolsV l)[i]? = some (.bool k) := by simp [boolsV, h]
/-- The last place of n among the first k. -/
def AtI (th : List Int) (n : Int) (k : Nat) (a : Int) : Prop := (a = -1 ∧ n ∉ th.take k) ∨ ∃ j : Nat, j < k ∧ th[j]? = some n ∧ a = (j : Int)
theorem AtI.step {th : List Int} {n m a : Int} {k : Nat} (h : AtI th n k a) (hm : th[k]? = some m) (hne : ¬ m = n) : AtI th n (k + 1) a := by
  rcases h with ⟨h1, h2⟩ | ⟨j, h1, h2, h3⟩
  · refine .inl ⟨h1, ?_⟩
    rw [take_succ_get hm, List.mem_append, List.mem_singleton]
    rintro (h | h)
    · exact h2 h
    · exact hne h.symm
  · exact .inr ⟨j, by omega, h2, h3⟩
theorem AtI.iff {th : List Int} {n a : Int} (h : AtI th n th.length a) : n ∈ th ↔ 0 ≤ a := by
  rcases h with ⟨h1, h2⟩ | ⟨j, h1, h2, h3⟩
  · rw [List.take_length] at h2
    exact ⟨fun h => absurd h h2, fun h => by omega⟩
  · exact ⟨fun _ => by omega, fun _ => List.mem_of_getElem? h2⟩
theorem there_drop {th : List Int} {s : TS} {n : Int} {j : Nat} (hp : th.Perm s.keys) (hj : th[j]? = some n) : (th.take j ++ th.drop (j + 1)).Perm (s.drop n).keys := by
  rw [TS.drop_keys]
  obtain ⟨hl, e⟩ := List.getElem?_eq_some_iff.1 hj
  have h := (perm_pick hl).symm.trans hp
  rw [e] at h
  have h2 := h.erase n
  rwa [List.erase_cons_head] at h2
theorem there_same {th : List Int} {s : TS} {n : Int} (hp : th.Perm s.keys) (hn : n ∉ s.keys) : th.Perm (s.drop n).keys := by
  rw [TS.drop_keys, List.erase_of_not_mem hn]; exact hp
theorem ask_there {n m2 : Int} {s z : TS} {th th2 : List Int} (hp : th.Perm s.keys) (ha : Asked n s z) (e1 : n ∈ s.keys → m2 = s.m ∧ th2 = th) (e2 : n ∉ s.keys → m2 = s.m + 1 ∧ th2 = th ++ [n]) : th2.Perm z.keys ∧ z.m = m2 ∧ m2 ≤ s.m + 1 := by
  rcases ha with ⟨hn, rfl⟩ | ⟨hn, hk, hm⟩
  · obtain ⟨rfl, rfl⟩ := e1 hn
    exact ⟨hp, rfl, by omega⟩
  · obtain ⟨rfl, rfl⟩ := e2 hn
    exact ⟨by rw [hk]; exact hp.append_right [n], hm, by omega⟩
theorem pair_get {zs : List Int} {k : Nat} {u v : Int} (h : zs.Pairwise (· < ·)) (hk : 0 < k) (hu : zs[k]? = some u) (hv : zs[k - 1]? = some v) : v < u := by
  obtain ⟨h1, rfl⟩ := List.getElem?_eq_some_iff.1 hu
  obtain ⟨h2, rfl⟩ := List.getElem?_eq_some_iff.1 hv
  exact List.pairwise_iff_getElem.1 h (k - 1) k h2 h1 (by omega)

theorem sizes_b {w0 w : World} {F : List Seg} {t : Nat} {s : TS} (H : Hp w0 w (s.tb t 0 :: s.mp :: s.ts :: F)) (ok : s.ok) : Ret Tryd.prog 18 [.pointer (some ⟨t, 0, none⟩)] w fun v w' => ∃ zs p c sl, v = .tuple #[.slice p zs.length c, .bool true] ∧ zs.Perm s.keys ∧ zs.Pairwise (· ≤ ·) ∧ OwnSl 3 1 p zs.length c (intsV zs) sl ∧ Hp w0 w' (sl :: s.tb t 0 :: s.mp :: s.ts :: F) := by
  refine Calls.of_J (n := 21) Tryd.func18 rfl rfl rfl ?_
  refine J.seq ?_
  refine J.region ?_
  refine JL.does trivial (EX.alloc H zr22 rfl) ?_
  rintro _ w ⟨b2, rfl, H⟩
  refine JL.does trivial (EX.alloc H zr4 rfl) ?_
  rintro _ w ⟨b3, rfl, H⟩
  refine JL.nil ?_
  refine J.seq ?_
  refine J.region ?_
  refine JL.go trivial (RX.movev (v := Value.pointer _) rfl) ?_
  refine JL.does trivial (EX.call rfl cl22 rfl ((Sizes_b (((H.pull 4 rfl).pull 4 rfl).pull 4 rfl) ok))) ?_
  rintro _ w ⟨bs, zs, p, c, sl0, rfl, hperm, hsort, ho0, H⟩
  have hzl : zs.length ≤ 16384 := by rw [hperm.length_eq]; exact ok.len
  refine JL.go trivial (RX.assignv (v := Value.func _ _ _) rfl) ?_
  refine JL.nil ?_
  refine J.seq ?_
  refine J.seq ?_
  refine J.region ?_
  refine JL.go trivial (RX.movev (v := Value.func _ _ _) rfl) ?_
  refine JL.go trivial (RX.funcnil_eql (fn := _) (u := _) (z := _) rfl rfl (by kernel_rfl)) ?_
  refine JL.nil ?_
  refine J.cond_f rfl rfl ?_
  refine J.skip ?_
  refine J.seq ?_
  refine J.region ?_
  refine JL.does trivial (EX.alloc H zr22 rfl) ?_
  rintro _ w ⟨b4, rfl, H⟩
  refine JL.nil ?_
  refine J.seq ?_
  refine J.seq ?_
  refine J.region ?_
  refine JL.go trivial (RX.movev (v := Value.func _ _ _) rfl) ?_
  refine JL.nil ?_
  refine J.block ?_
  refine J.rangeFunc (fv := []) (cv := [.pointer (some ⟨bs, 0, none⟩)]) H rfl cl47 rfl ?_
  generalize hasg : (Code.region 6 _ false) = asg
  generalize hbdy : (Code.block 1 _) = bdy
  rintro r l a w1 hl ha H
  have hY : YI Tryd.prog l (Acc l r b4 (loopObj .ready 18 a.tmps #[12] asg bdy r)) never w0 16384 (s.tb t 0 :: s.mp :: s.ts :: [(b3, cel [.bool false] 4)] :: [(b2, cel [.slice none 0 0] 22)] :: F) := by
    rintro xs _ X w x ⟨p2, c2, sl, rfl, ho⟩ hx H
    replace H := hp_fore H
    replace H : Hp w0 w ([(l, loopObj .ready 18 a.tmps #[12] asg bdy r)] :: [(r, Obj.deferred (some []))] :: [(b4, cel [.slice p2 xs.length c2] 22)] :: sl :: (X ++ (s.tb t 0 :: s.mp :: s.ts :: [(b3, cel [.bool false] 4)] :: [(b2, cel [.slice none 0 0] 22)] :: F))) := H
    refine yield_round H (i := 0) rfl ha ?_
    refine FC.code hasg ?_
    refine FC.region ?_
    refine FL.go (fair_round l) rfl trivial (RX.assignv (v := Value.int _ _) rfl) ?_
    refine FL.nil ?_
    intro a1 ha1
    refine ⟨_, run_beginRound (H.get1 (i := 0) rfl) rfl, ?_⟩
    replace H := H.putObj (i := 0) (o' := loopObj .busy 18 a.tmps #[12] asg bdy r) rfl
    replace H : Hp w0 _ ([(l, loopObj .busy 18 a.tmps #[12] asg bdy r)] :: [(r, Obj.deferred (some []))] :: [(b4, cel [.slice p2 xs.length c2] 22)] :: sl :: (X ++ (s.tb t 0 :: s.mp :: s.ts :: [(b3, cel [.bool false] 4)] :: [(b2, cel [.slice none 0 0] 22)] :: F))) := H
    refine (?_ : FC (Fence.wide.inRound l) [] Tryd.prog 21 _ _ _ _) a1 ha1
    refine FC.code hbdy ?_
    refine FC.block ?_
    refine FC.seq ?_
    refine FC.region ?_
    refine FL.go (fair_round l) rfl trivial (RX.load H rfl (i := 2) (v := .slice p2 xs.length c2) rfl rfl one22) ?_
    refine FL.go (fair_round l) rfl trivial (RX.movev (v := Value.int _ _) rfl) ?_
    refine FL.does (fair_round l) rfl trivial (EX.buildSlice1 H elI rfl rfl) ?_
    rintro _ w ⟨bz, rfl, H⟩
    refine FL.does (fair_round l) rfl trivial (EX.append (ys := [.int .i64 x]) (L' := fun s' => [(bz, cel [.int .i64 x] 3)] :: [(l, loopObj .busy 18 a.tmps #[12] asg bdy r)] :: [(r, Obj.deferred (some []))] :: [(b4, cel [.slice p2 xs.length c2] 22)] :: s' :: (X ++ (s.tb t 0 :: s.mp :: s.ts :: [(b3, cel [.bool false] 4)] :: [(b2, cel [.slice none 0 0] 22)] :: F))) H elI rfl rfl (i := 4) rfl ho (SlAt.here rfl) rfl (intsV_cell [x]) (by decide) (by omega) (by omega) (fun _ => rfl)) ?_
    rintro _ w ⟨p3, c3, s3, rfl, ho3, H⟩
    refine FL.does (fair_round l) rfl trivial (EX.store (v := Value.slice _ _ _) H rfl rfl (i := 3) (l' := [.slice p3 (xs.length + 1) c3]) rfl rfl (by simp) sz22 rfl rfl) ?_
    rintro _ w H
    refine FL.nil ?_
    intro a2 ha2
    replace H : Hp w0 _ ([(l, loopObj .busy 18 a.tmps #[12] asg bdy r)] :: [(r, Obj.deferred (some []))] :: [(b4, cel [.slice p3 (xs.length + 1) c3] 22)] :: s3 :: (X ++ (s.tb t 0 :: s.mp :: s.ts :: [(b3, cel [.bool false] 4)] :: [(b2, cel [.slice none 0 0] 22)] :: F))) := H.drop
    refine (?_ : FC (Fence.wide.inRound l) [] Tryd.prog 21 _ _ _ _) a2 ha2
    refine FC.seq ?_
    refine FC.region ?_
    refine FL.go (fair_round l) rfl trivial (RX.load H rfl (i := 2) (v := .slice p3 (xs.length + 1) c3) rfl rfl one22) ?_
    refine FL.go (fair_round l) rfl trivial (RX.len_slice rfl (by rw [sl22]; rfl) rfl) ?_
    refine FL.go (fair_round l) rfl trivial (RX.gt rfl rfl) ?_
    refine FL.nil ?_
    intro a3 ha3
    refine (?_ : FC (Fence.wide.inRound l) [] Tryd.prog 21 _ _ _ _) a3 ha3
    refine FC.cond_f (congrArg Value.bool (decide_eq_false (by omega))) ?_
    refine FC.skip fun a4 ha4 => ?_
    refine ⟨_, _, run_endRound none (H.get1 (i := 0) rfl), _, rfl, true, [[(l, loopObj .ready 18 a.tmps #[12] asg bdy r)], [(r, Obj.deferred (some []))], [(b4, cel [.slice p3 (xs.length + 1) c3] 22)], s3], rfl, fun _ => ⟨p3, c3, s3, by rw [List.length_append]; rfl, by rw [List.length_append, intsV_app]; exact ho3⟩, fun h => (by cases h), ?_⟩
    replace H := H.putObj (i := 0) (o' := loopObj .ready 18 a.tmps #[12] asg bdy r) rfl
    exact hp_fore (X := [_, _, _, _]) (G := X) H
  rw [← hl]
  refine Ret.mono (values1_b (A := (Acc l r b4 (loopObj .ready 18 a.tmps #[12] asg bdy r))) (B := never) (N := 16384) (X := [[(bs, cel [.slice p zs.length c] 22)], sl0]) (F := s.tb t 0 :: s.mp :: s.ts :: [(b3, cel [.bool false] 4)] :: [(b2, cel [.slice none 0 0] 22)] :: F) (G := [[(l, loopObj .ready 18 a.tmps #[12] asg bdy r)], [(r, Obj.deferred (some []))], [(b4, cel [.slice none 0 0] 22)], []]) hY (SlAt.here rfl) ((ho0.slAt (L := [])).cons) (by omega) ⟨none, 0, [], rfl, OwnSl.nil⟩ (by omega) ?_) ?_
  · refine hp_fore (X := [_, _, _, _]) (G := [[(bs, cel [.slice p zs.length c] 22)], sl0]) ?_
    exact ((H.nil.pull 3 rfl).pull 3 rfl).pull 3 rfl
  rintro v w3 h
  obtain ⟨G1, ⟨p3, c3, sl, rfl, ho⟩, H⟩ := h.resolve_right (fun ⟨_, _, _, h, _⟩ => h)
  replace H := hp_fore H
  refine ⟨0, _, H, rfl, fun w H => ?_⟩
  replace H : Hp w0 w ([(l, loopObj .exhausted 18 a.tmps #[12] asg bdy r)] :: [(r, Obj.deferred (some []))] :: [(b4, cel [.slice p3 zs.length c3] 22)] :: sl :: [(bs, cel [.slice p zs.length c] 22)] :: sl0 :: s.tb t 0 :: s.mp :: s.ts :: [(b3, cel [.bool false] 4)] :: [(b2, cel [.slice none 0 0] 22)] :: F) := H
  refine J.inBlock ?_
  refine J.seq ?_
  refine J.region ?_
  refine JL.go trivial (RX.load H rfl (i := 2) (v := .slice p3 zs.length c3) rfl rfl one22) ?_
  refine JL.does trivial (EX.store (v := Value.slice _ _ _) H rfl rfl (i := 10) (l' := [.slice p3 zs.length c3]) rfl rfl (by simp) sz22 rfl rfl) ?_
  rintro _ w H
  refine JL.does trivial (EX.store (v := Value.bool _) H rfl rfl (i := 9) (l' := [.bool true]) rfl rfl (by simp) sz4 rfl rfl) ?_
  rintro _ w H
  refine JL.nil ?_
  refine J.ret_mark Tryd.func18 H (i := 1) rfl ?_
  intro w2 a2 ha2 H
  refine ⟨_, results_cc ha2 rfl rfl rfl H (i := 10) (j := 9) rfl rfl one22 one4, ?_⟩
  exact ⟨_, rfl, zs, p3, c3, sl, rfl, hperm, hsort, ho, ((((H.drop.drop.drop.pull 1 rfl).drop.pull 1 rfl).drop.pull 4 rfl).drop.pull 4 rfl).drop⟩
set_option maxHeartbeats 1600000 in
theorem TablesCounts_b {w0 w : World} {F : List Seg} (H : Hp w0 w F) {E : Nat → Value} {Q : Nat → Addr} (hE : Errs F E Q) {pa pd : Option Addr} {ca cd : Nat} {asked : List Int} {drops : List Bool} (hs : SlAt F pa (intsV asked)) (hl : asked.length ≤ 9223372036854775807) (hok : ∀ k ∈ asked, i64ok k) (hd : SlAt F pd (boolsV drops)) (hdl : drops.length ≤ 9223372036854775807) : Ret Tryd.prog 4 [.slice pa asked.length ca, .slice pd drops.length cd] w fun v w' => v = .bool true ∧ Hp w0 w' F := by
  refine Calls.of_J (n := 138) Tryd.func4 rfl rfl rfl ?_
  refine J.seq ?_
  refine J.region ?_
  refine JL.go trivial (RX.assign) ?_
  refine JL.nil ?_
  refine J.seq ?_
  refine J.seq ?_
  refine J.region ?_
  refine JL.does trivial (EX.call rfl cl7 rfl ((fixed_b H hE))) ?_
  rintro _ w ⟨rfl, H⟩
  refine JL.go trivial (RX.not rfl) ?_
  refine JL.nil ?_
  refine J.cond_f rfl rfl ?_
  refine J.skip ?_
  refine J.seq ?_
  refine J.region ?_
  refine JL.does trivial (EX.call rfl cl8 rfl ((New_b H))) ?_
  rintro _ w ⟨t, mb, rfl, H⟩
  refine JL.go trivial (RX.assignv (v := Value.pointer _) rfl) ?_
  refine JL.nil ?_
  refine J.seq ?_
  refine J.seq ?_
  refine J.region ?_
  refine JL.go trivial (RX.movev (v := Value.pointer _) rfl) ?_
  refine JL.go trivial (RX.ptrnil_eql rfl rfl pn24) ?_
  refine JL.nil ?_
  refine J.cond_f rfl rfl ?_
  refine J.skip ?_
  refine J.seq ?_
  refine J.region ?_
  refine JL.go trivial (RX.assign) ?_
  refine JL.nil ?_
  refine J.seq ?_
  refine J.region ?_
  refine JL.go trivial (RX.assign) ?_
  refine JL.nil ?_
  refine J.seq ?_
  refine J.seq ?_
  refine J.region ?_
  refine JL.go trivial (RX.movev (v := Value.slice _ _ _) rfl) ?_
  refine JL.go trivial (RX.len_slice rfl (by rw [sl22]; rfl) rfl) ?_
  refine JL.go trivial (RX.move) ?_
  refine JL.nil ?_
  refine J.block ?_
  refine J.loop (ι := Nat × TS × List Int × Option Addr × Nat × Seg) (S := fun z => [(23, .int .i64 (z.1 : Nat)), (6, .int .i64 z.2.1.m), (7, .slice z.2.2.2.1 z.2.2.1.length z.2.2.2.2.1)]) (Φ := fun z w => z.1 ≤ asked.length ∧ z.2.1.ok ∧ z.2.1.m ≤ (z.1 : Nat) ∧ z.2.2.1.Perm z.2.1.keys ∧ OwnSl 3 1 z.2.2.2.1 (z.2.2.1).length z.2.2.2.2.1 (intsV (z.2.2.1)) z.2.2.2.2.2 ∧ Hp w0 w (z.2.1.tb t 0 :: z.2.1.mp :: z.2.1.ts :: z.2.2.2.2.2 :: F)) (μ := fun z => asked.length - z.1) (C := [(1, _), (5, _), (21, _), (22, _)]) (0, newTS mb, [], none, 0, []) ⟨rfl, rfl, rfl, rfl, trivial⟩ ⟨rfl, rfl, rfl, trivial⟩ ?_ ?_
  · exact ⟨by simp, newTS_ok mb, by show (0 : Int) ≤ _; simp, List.Perm.refl _, OwnSl.nil, ((H.nil.pull 3 rfl).pull 3 rfl).pull 3 rfl⟩
  clear H
  rintro ⟨i, s, th, p, c, sl⟩ ρ w ⟨hi, ok, hm, hp, ho, H⟩ IH
  simp only at hi ok hm hp ho H
  have hthl : th.length ≤ 16384 := by rw [hp.length_eq]; exact ok.len
  have hm0 := ok.made
  dsimp only
  refine J.seq ?_
  refine J.region ?_
  refine JL.go trivial (RX.lt rfl rfl) ?_
  refine JL.nil ?_
  refine J.seq ?_
  refine J.cond_d rfl (fun hlt => ?_) (fun hlt => ?_)
  · skip
    obtain ⟨x, hget⟩ : ∃ x, asked[i]? = some x := ⟨_, List.getElem?_eq_getElem (by omega)⟩
    obtain ⟨pb, po, rfl, hpp⟩ := hs.some (by rw [intsV_len]; omega)
    refine J.skip ?_
    refine J.seq ?_
    refine J.block ?_
    refine J.seq ?_
    refine J.region ?_
    refine JL.go trivial (RX.movev (v := Value.int _ _) rfl) ?_
    refine JL.go trivial (RX.indexAddr rfl rfl sl22 (by omega) (by omega) (o' := po + i) (by omega)) ?_
    refine JL.go trivial (RX.loadS H (SlAt.cons (SlAt.cons (SlAt.cons hs.cons))) rfl (j := i) rfl (intsV_get hget) one3) ?_
    refine JL.go trivial (RX.assignv (v := Value.int _ _) rfl) ?_
    refine JL.go trivial (RX.assignv (v := Value.int _ _) rfl) ?_
    refine JL.nil ?_
    refine J.seq ?_
    obtain ⟨n, hnn, hn1, hn2⟩ : ∃ n : Int, 1 + x % 18446744073709551616 % 200 = n ∧ 1 ≤ n ∧ n ≤ 200 := ⟨_, rfl, by omega, by omega⟩
    refine J.region ?_
    refine JL.go trivial (RX.movev (v := Value.int _ _) rfl) ?_
    refine JL.go trivial (RX.conv rfl (by rw [ki3]; rfl) ki41 (wrap_u64 _)) ?_
    refine JL.go trivial (RX.rem rfl rfl (by decide) (Int.tmod_eq_emod_of_nonneg (by omega))) ?_
    refine JL.go trivial (RX.conv rfl (by rw [ki41]; rfl) ki3 (w_i64 rfl (by omega) (by omega))) ?_
    refine JL.go trivial (RX.add rfl rfl (w_i64 (r := n) hnn (by omega) (by omega))) ?_
    refine JL.go trivial (RX.assignv (v := Value.int _ _) rfl) ?_
    refine JL.nil ?_
    refine J.seq ?_
    refine J.region ?_
    refine JL.go trivial (RX.assign) ?_
    refine JL.nil ?_
    refine J.seq ?_
    refine J.seq ?_
    refine J.region ?_
    refine JL.go trivial (RX.movev (v := Value.slice _ _ _) rfl) ?_
    refine JL.go trivial (RX.len_slice rfl (by rw [sl22]; rfl) rfl) ?_
    refine JL.go trivial (RX.move) ?_
    refine JL.nil ?_
    refine J.block ?_
    refine J.loop (ι := Nat × Int) (S := fun z => [(35, .int .i64 (z.1 : Nat)), (10, .int .i64 z.2)]) (Φ := fun z w => z.1 ≤ th.length ∧ AtI th n z.1 z.2 ∧ Hp w0 w (s.tb t 0 :: s.mp :: s.ts :: sl :: F)) (μ := fun z => th.length - z.1) (C := [(1, _), (5, _), (6, _), (7, _), (8, _), (9, _), (21, _), (22, _), (23, _), (33, _), (34, _)]) (0, -1) ⟨rfl, rfl, rfl, rfl, rfl, rfl, rfl, rfl, rfl, rfl, rfl, trivial⟩ ⟨rfl, rfl, trivial⟩ ?_ ?_
    · exact ⟨by simp, .inl ⟨rfl, by simp⟩, H⟩
    clear H
    rintro ⟨k, a0⟩ ρ w ⟨hk, hat, H⟩ IH2
    simp only at hk hat H
    dsimp only
    refine J.seq ?_
    refine J.region ?_
    refine JL.go trivial (RX.lt rfl rfl) ?_
    refine JL.nil ?_
    refine J.seq ?_
    refine J.cond_d rfl (fun hlk => ?_) (fun hlk => ?_)
    · skip
      obtain ⟨m, hmk⟩ : ∃ m, th[k]? = some m := ⟨_, List.getElem?_eq_getElem (by omega)⟩
      obtain ⟨b1, o1, rfl, _⟩ := (ho.slAt (L := F)).some (by rw [intsV_len]; omega)
      refine J.skip ?_
      refine J.seq ?_
      refine J.block ?_
      refine J.seq ?_
      refine J.region ?_
      refine JL.go trivial (RX.movev (v := Value.int _ _) rfl) ?_
      refine JL.go trivial (RX.indexAddr rfl rfl sl22 (by omega) (by omega) (o' := o1 + k) (by omega)) ?_
      refine JL.go trivial (RX.loadS H (SlAt.cons (SlAt.cons (SlAt.cons ho.slAt))) rfl (j := k) rfl (intsV_get hmk) one3) ?_
      refine JL.go trivial (RX.assignv (v := Value.int _ _) rfl) ?_
      refine JL.go trivial (RX.assignv (v := Value.int _ _) rfl) ?_
      refine JL.nil ?_
      refine J.seq ?_
      refine J.region ?_
      refine JL.go trivial (RX.movev (v := Value.int _ _) rfl) ?_
      refine JL.go trivial (RX.movev (v := Value.int _ _) rfl) ?_
      refine JL.go trivial (RX.eq rfl rfl) ?_
      refine JL.nil ?_
      refine J.cond_d rfl (fun hmn => ?_) (fun hmn => ?_)
      · skip
        refine J.region ?_
        refine JL.go trivial (RX.movev (v := Value.int _ _) rfl) ?_
        refine JL.go trivial (RX.assignv (v := Value.int _ _) rfl) ?_
        refine JL.nil ?_
        refine J.inBlock ?_
        refine J.region ?_
        refine JL.go trivial (RX.add rfl rfl (w_i64 (r := ((k + 1 : Nat) : Int)) (by omega) (by omega) (by omega))) ?_
        refine JL.go trivial (RX.movev (v := Value.int _ _) rfl) ?_
        refine JL.nil ?_
        exact IH2 (k + 1, (k : Int)) _ _ (by simp only; omega) ⟨rfl, rfl, rfl, rfl, rfl, rfl, rfl, rfl, rfl, rfl, rfl, trivial⟩ ⟨rfl, rfl, trivial⟩ ⟨by simp only; omega, .inr ⟨k, by simp only; omega, by rw [hmk, hmn], rfl⟩, H⟩
      · skip
        refine J.skip ?_
        refine J.inBlock ?_
        refine J.region ?_
        refine JL.go trivial (RX.add rfl rfl (w_i64 (r := ((k + 1 : Nat) : Int)) (by omega) (by omega) (by omega))) ?_
        refine JL.go trivial (RX.movev (v := Value.int _ _) rfl) ?_
        refine JL.nil ?_
        exact IH2 (k + 1, a0) _ _ (by simp only; omega) ⟨rfl, rfl, rfl, rfl, rfl, rfl, rfl, rfl, rfl, rfl, rfl, trivial⟩ ⟨rfl, rfl, trivial⟩ ⟨by simp only; omega, hat.step hmk hmn, H⟩
    · skip
      have hkl : k = th.length := by omega
      subst hkl
      have hiff : n ∈ s.keys ↔ 0 ≤ a0 := by rw [← hp.mem_iff]; exact hat.iff
      clear IH2
      refine J.exit rfl ?_
      refine J.seq ?_
      refine J.seq ?_
      refine J.join (ι := Bool) (fun q => [(54, .bool q)]) (fun q w => Hp w0 w (s.tb t 0 :: s.mp :: s.ts :: sl :: F)) [(1, _), (5, _), (6, _), (7, _), (8, _), (9, _), (10, _), (21, _), (22, _), (23, _)] ⟨rfl, rfl, rfl, rfl, rfl, rfl, rfl, rfl, rfl, rfl, trivial⟩ ?_ ?_
      rotate_left
      · skip
        intro k2 hk2
        refine J.region ?_
        refine JL.go trivial (RX.movev (v := Value.int _ _) rfl) ?_
        refine JL.go trivial (RX.movev (v := Value.slice _ _ _) rfl) ?_
        refine JL.go trivial (RX.len_slice rfl (by rw [sl40]; rfl) rfl) ?_
        refine JL.go trivial (RX.lt rfl rfl) ?_
        refine JL.go trivial (RX.movev (v := Value.bool _) rfl) ?_
        refine JL.splitS 49 rfl (fun hgd => ?_) (fun hgd => ?_)
        · skip
          first | have hgdp := of_decide_eq_true hgd | skip
          have hgd2 := of_decide_eq_true hgd
          obtain ⟨q0, hq0⟩ : ∃ q0, drops[i]? = some q0 := ⟨_, List.getElem?_eq_getElem (by omega)⟩
          obtain ⟨pb2, po2, rfl, hpp2⟩ := hd.some (by rw [boolsV_len]; omega)
          refine JL.go ⟨_, rfl, hgd⟩ (RX.movev (v := Value.slice _ _ _) rfl) ?_
          refine JL.go ⟨_, rfl, hgd⟩ (RX.movev (v := Value.int _ _) rfl) ?_
          refine JL.go ⟨_, rfl, hgd⟩ (RX.indexAddr rfl rfl sl40 (by omega) (by omega) (o' := po2 + i) (by omega)) ?_
          refine JL.go ⟨_, rfl, hgd⟩ (RX.loadS H (SlAt.cons (SlAt.cons (SlAt.cons hd.cons))) rfl (j := i) rfl (boolsV_get hq0) one4) ?_
          refine JL.go trivial (RX.pick_t rfl hgd) ?_
          refine JL.nil ?_
          exact hk2 _ _ _ ⟨rfl, rfl, rfl, rfl, rfl, rfl, rfl, rfl, rfl, rfl, trivial⟩ ⟨rfl, trivial⟩ H
        · skip
          first | have hgdp := of_decide_eq_false hgd | skip
          refine JL.no ⟨_, rfl, gno hgd⟩ ?_
          refine JL.no ⟨_, rfl, gno hgd⟩ ?_
          refine JL.no ⟨_, rfl, gno hgd⟩ ?_
          refine JL.no ⟨_, rfl, gno hgd⟩ ?_
          refine JL.go trivial (RX.pick_f rfl hgd) ?_
          refine JL.nil ?_
          exact hk2 _ _ _ ⟨rfl, rfl, rfl, rfl, rfl, rfl, rfl, rfl, rfl, rfl, trivial⟩ ⟨rfl, trivial⟩ H
      · skip
        clear H
        rintro q ρ w H
        refine J.cond rfl (fun hdr => ?_) (fun hdr => ?_)
        · skip
          refine J.seq ?_
          refine J.seq ?_
          refine J.region ?_
          refine JL.go trivial (RX.movev (v := Value.pointer _) rfl) ?_
          refine JL.go trivial (RX.movev (v := Value.int _ _) rfl) ?_
          refine JL.does trivial (EX.call rfl cl13 rfl ((Drop_b H ok (n := n)))) ?_
          rintro _ w ⟨rfl, H⟩
          refine JL.go trivial (RX.movev (v := Value.int _ _) rfl) ?_
          refine JL.go trivial (RX.ge rfl rfl) ?_
          refine JL.go trivial (RX.bool_neq rfl rfl ud4) ?_
          refine JL.go trivial (RX.movev (v := Value.bool _) rfl) ?_
          refine JL.go ⟨_, rfl, (by simp [hiff])⟩ (RX.movev (v := Value.pointer _) rfl) ?_
          refine JL.does ⟨_, rfl, (by simp [hiff])⟩ (EX.call rfl cl12 rfl ((Made_b H))) ?_
          rintro _ w ⟨rfl, H⟩
          refine JL.go ⟨_, rfl, (by simp [hiff])⟩ (RX.movev (v := Value.int _ _) rfl) ?_
          refine JL.go ⟨_, rfl, (by simp [hiff])⟩ (RX.ne rfl rfl) ?_
          refine JL.go trivial (RX.pick_f rfl (by simp [hiff])) ?_
          refine JL.nil ?_
          refine J.cond_f rfl (decide_eq_false (fun h => h rfl)) ?_
          refine J.skip ?_
          refine J.seq ?_
          refine J.seq ?_
          refine J.region ?_
          refine JL.go trivial (RX.movev (v := Value.int _ _) rfl) ?_
          refine JL.go trivial (RX.ge rfl rfl) ?_
          refine JL.nil ?_
          refine J.cond_d rfl (fun hpos => ?_) (fun hpos => ?_)
          · skip
            obtain ⟨j, hj1, hj2, rfl⟩ : ∃ j : Nat, j < th.length ∧ th[j]? = some n ∧ a0 = (j : Int) := by
              rcases hat with ⟨h1, _⟩ | h
              · omega
              · exact h
            have hcl := ho.le
            have hpsp := ho.spot
            refine J.any hmix fun w hs => ?_
            replace H := H.same hs; clear hs
            refine JA.take 1 (listed' := [false, true, false, false, false, false, false, false, false, false, false]) rfl (by kernel_rfl) (by kernel_rfl) (by kernel_rfl) rfl trivial (fun w => RX.movev (v := Value.slice _ _ _) rfl) ?_
            refine JA.take 2 (listed' := [false, true, true, false, false, false, false, false, false, false, false]) rfl (by kernel_rfl) (by kernel_rfl) (by kernel_rfl) rfl trivial (fun w => RX.movev (v := Value.int _ _) rfl) ?_
            refine JA.take 3 (listed' := [false, true, true, true, false, false, false, false, false, false, false]) rfl (by kernel_rfl) (by kernel_rfl) (by kernel_rfl) rfl trivial (fun w => RX.slice_h rfl rfl sl22 hpsp (by omega) (by omega) (r := j) (by omega)) ?_
            refine JA.take 5 (listed' := [false, true, true, true, false, true, false, false, false, false, false]) rfl (by kernel_rfl) (by kernel_rfl) (by kernel_rfl) rfl trivial (fun w => RX.movev (v := Value.slice _ _ _) rfl) ?_
            refine JA.take 6 (listed' := [false, true, true, true, false, true, true, false, false, false, false]) rfl (by kernel_rfl) (by kernel_rfl) (by kernel_rfl) rfl trivial (fun w => RX.movev (v := Value.int _ _) rfl) ?_
            refine JA.take 7 (listed' := [false, true, true, true, false, true, true, true, false, false, false]) rfl (by kernel_rfl) (by kernel_rfl) (by kernel_rfl) rfl trivial (fun w => RX.add rfl rfl (w_i64 (r := ((j + 1 : Nat) : Int)) (by omega) (by omega) (by omega))) ?_
            refine JA.take 8 (listed' := [false, true, true, true, false, true, true, true, true, false, false]) rfl (by kernel_rfl) (by kernel_rfl) (by kernel_rfl) rfl trivial (fun w => RX.slice_l rfl rfl sl22 hpsp (by omega) (by omega) (r := j + 1) (by omega)) ?_
            refine JA.all [0] (by kernel_rfl) (by decide) ?_
            refine JO.does (listed' := [true, true, true, true, false, true, true, true, true, false, false]) rfl rfl trivial (EX.buildSlice0 H elI) ?_
            rintro _ w ⟨bz, rfl, H⟩
            refine JA.all [4] (by kernel_rfl) (by decide) ?_
            refine JO.does (listed' := [true, true, true, true, true, true, true, true, true, false, false]) rfl rfl trivial (EX.append (ys := intsV (th.take j)) (L' := fun s' => s' :: (s.drop n).tb t 0 :: (s.drop n).mp :: (s.drop n).ts :: sl :: F) H elI rfl rfl (i := 0) rfl OwnSl.empty (by rw [intsV_take]; exact (SlAt.cons (SlAt.cons (SlAt.cons (SlAt.cons ho.slAt)))).take) (by rw [intsV_len, List.length_take]; omega) (intsV_cell _) (by decide) (by omega) (by omega) (fun _ => rfl)) ?_
            rintro _ w ⟨q1, c1, s1, rfl, ho1, H⟩
            refine JA.all [9] (by kernel_rfl) (by decide) ?_
            refine JO.does (listed' := [true, true, true, true, true, true, true, true, true, true, false]) rfl rfl trivial (EX.append (ys := intsV (th.drop (j + 1))) (L' := fun s' => s' :: (s.drop n).tb t 0 :: (s.drop n).mp :: (s.drop n).ts :: sl :: F) H elI rfl rfl (i := 0) rfl ho1 (by rw [intsV_drop]; exact slAt_behind (SlAt.cons (SlAt.cons (SlAt.cons (SlAt.cons ho.slAt)))) (by rw [intsV_len]; omega)) (by rw [intsV_len, List.length_drop]; omega) (intsV_cell _) (by decide) (by omega) (by omega) (fun _ => rfl)) ?_
            rintro _ w ⟨q2, c2, s2, rfl, ho2, H⟩
            rw [List.nil_append, ← intsV_app, show 0 + j + (th.length - (j + 1)) = (th.take j ++ th.drop (j + 1)).length by rw [List.length_append, List.length_take, List.length_drop]; omega] at ho2
            rw [show 0 + j + (th.length - (j + 1)) = (th.take j ++ th.drop (j + 1)).length by rw [List.length_append, List.length_take, List.length_drop]; omega]
            refine JA.take 10 (listed' := [true, true, true, true, true, true, true, true, true, true, true]) rfl (by kernel_rfl) (by kernel_rfl) (by kernel_rfl) rfl trivial (fun w => RX.assignv (v := Value.slice _ _ _) rfl) ?_
            refine JA.done (by kernel_rfl) ?_
            refine J.exit rfl ?_
            refine J.region ?_
            refine JL.go trivial (RX.add rfl rfl (w_i64 (r := ((i + 1 : Nat) : Int)) (by omega) (by omega) (by omega))) ?_
            refine JL.go trivial (RX.movev (v := Value.int _ _) rfl) ?_
            refine JL.nil ?_
            refine IH (i + 1, s.drop n, th.take j ++ th.drop (j + 1), q2, c2, s2) _ _ (by simp only; omega) ⟨rfl, rfl, rfl, rfl, trivial⟩ ⟨rfl, rfl, rfl, trivial⟩ ⟨by simp only; omega, ok.drop n, ?_, there_drop hp hj2, ho2, ?_⟩
            · show s.m ≤ ((i + 1 : Nat) : Int); omega
            · exact (((H.pull 4 rfl).drop.pull 3 rfl).pull 3 rfl).pull 3 rfl
          · skip
            refine J.skip ?_
            refine J.exit rfl ?_
            refine J.region ?_
            refine JL.go trivial (RX.add rfl rfl (w_i64 (r := ((i + 1 : Nat) : Int)) (by omega) (by omega) (by omega))) ?_
            refine JL.go trivial (RX.movev (v := Value.int _ _) rfl) ?_
            refine JL.nil ?_
            refine IH (i + 1, s.drop n, th, p, c, sl) _ _ (by simp only; omega) ⟨rfl, rfl, rfl, rfl, trivial⟩ ⟨rfl, rfl, rfl, trivial⟩ ⟨by simp only; omega, ok.drop n, ?_, there_same hp (fun h => hpos (hiff.1 h)), ho, H⟩
            show s.m ≤ ((i + 1 : Nat) : Int); omega
        · skip
          refine J.skip ?_
          refine J.seq ?_
          refine J.seq ?_
          refine J.region ?_
          refine JL.go trivial (RX.movev (v := Value.int _ _) rfl) ?_
          refine JL.go trivial (RX.lt rfl rfl) ?_
          refine JL.nil ?_
          refine J.join (ι := Int × List Int × Option Addr × Nat × Seg) (fun z => [(6, .int .i64 z.1), (7, .slice z.2.2.1 z.2.1.length z.2.2.2.1)]) (fun z w => (n ∈ s.keys → z.1 = s.m ∧ z.2.1 = th) ∧ (n ∉ s.keys → z.1 = s.m + 1 ∧ z.2.1 = th ++ [n]) ∧ OwnSl 3 1 z.2.2.1 (z.2.1).length z.2.2.2.1 (intsV (z.2.1)) z.2.2.2.2 ∧ Hp w0 w (s.tb t 0 :: s.mp :: s.ts :: z.2.2.2.2 :: F)) [(1, _), (5, _), (8, _), (9, _), (21, _), (22, _), (23, _)] ⟨rfl, rfl, rfl, rfl, rfl, rfl, rfl, trivial⟩ ?_ ?_
          rotate_left
          · skip
            intro k2 hk2
            refine J.cond_d rfl (fun hneg => ?_) (fun hneg => ?_)
            · skip
              refine J.seq ?_
              refine J.region ?_
              refine JL.go trivial (RX.movev (v := Value.int _ _) rfl) ?_
              refine JL.go trivial (RX.add rfl rfl (w_i64 (r := s.m + 1) (by omega) (by omega) (by omega))) ?_
              refine JL.go trivial (RX.assignv (v := Value.int _ _) rfl) ?_
              refine JL.nil ?_
              refine J.region ?_
              refine JL.go trivial (RX.movev (v := Value.slice _ _ _) rfl) ?_
              refine JL.go trivial (RX.movev (v := Value.int _ _) rfl) ?_
              refine JL.does trivial (EX.buildSlice1 H elI rfl rfl) ?_
              rintro _ w ⟨bz, rfl, H⟩
              refine JL.does trivial (EX.append (ys := [.int .i64 n]) (L' := fun s' => [(bz, cel [.int .i64 n] 3)] :: s.tb t 0 :: s.mp :: s.ts :: s' :: F) H elI rfl rfl (i := 4) rfl ho (SlAt.here rfl) rfl (intsV_cell [n]) (by decide) (by omega) (by omega) (fun _ => rfl)) ?_
              rintro _ w ⟨p3, c3, s3, rfl, ho3, H⟩
              replace ho3 : OwnSl 3 1 p3 (th ++ [n]).length c3 (intsV (th ++ [n])) s3 := by rw [List.length_append, intsV_app]; exact ho3
              rw [show th.length + 1 = (th ++ [n]).length by rw [List.length_append]; rfl]
              refine JL.go trivial (RX.assignv (v := Value.slice _ _ _) rfl) ?_
              refine JL.nil ?_
              first
              | exact hk2 (s.m + 1, th ++ [n], p3, c3, s3) _ _ ⟨rfl, rfl, rfl, rfl, rfl, rfl, rfl, trivial⟩ ⟨rfl, rfl, trivial⟩ ⟨fun h => absurd h (fun h => by have := hiff.1 h; omega), fun _ => ⟨rfl, rfl⟩, ho3, H.drop⟩
              | exact hk2 (s.m, th, p, c, sl) _ _ ⟨rfl, rfl, rfl, rfl, rfl, rfl, rfl, trivial⟩ ⟨rfl, rfl, trivial⟩ ⟨fun _ => ⟨rfl, rfl⟩, fun h => absurd (hiff.2 (by omega)) h, ho, H⟩
            · skip
              refine J.skip ?_
              first
              | exact hk2 (s.m + 1, th ++ [n], p3, c3, s3) _ _ ⟨rfl, rfl, rfl, rfl, rfl, rfl, rfl, trivial⟩ ⟨rfl, rfl, trivial⟩ ⟨fun h => absurd h (fun h => by have := hiff.1 h; omega), fun _ => ⟨rfl, rfl⟩, ho3, H.drop⟩
              | exact hk2 (s.m, th, p, c, sl) _ _ ⟨rfl, rfl, rfl, rfl, rfl, rfl, rfl, trivial⟩ ⟨rfl, rfl, trivial⟩ ⟨fun _ => ⟨rfl, rfl⟩, fun h => absurd (hiff.2 (by omega)) h, ho, H⟩
          · skip
            clear H
            rintro ⟨m2, th2, p2, c2, sl2⟩ ρ w ⟨e1, e2, ho2, H⟩
            simp only at e1 e2 ho2 H
            try dsimp only
            refine J.seq ?_
            refine J.seq ?_
            refine J.region ?_
            refine JL.go trivial (RX.movev (v := Value.int _ _) rfl) ?_
            refine JL.go trivial (RX.rem rfl rfl (by decide) (r := (i : Int) % 2) (Int.tmod_eq_emod_of_nonneg (by omega))) ?_
            refine JL.go trivial (RX.eq rfl rfl) ?_
            refine JL.nil ?_
            refine J.join (ι := TS) (fun z => []) (fun z w => z.ok ∧ Asked n s z ∧ Hp w0 w (z.tb t 0 :: z.mp :: z.ts :: sl2 :: F)) [(1, _), (5, _), (6, _), (7, _), (21, _), (22, _), (23, _)] ⟨rfl, rfl, rfl, rfl, rfl, rfl, rfl, trivial⟩ ?_ ?_
            rotate_left
            · skip
              intro k2 hk2
              refine J.cond_d rfl (fun h8 => ?_) (fun h8 => ?_)
              · skip
                refine J.region ?_
                refine JL.go trivial (RX.movev (v := Value.pointer _) rfl) ?_
                refine JL.go trivial (RX.movev (v := Value.int _ _) rfl) ?_
                refine JL.go trivial (RX.movev (v := Value.int _ _) rfl) ?_
                refine JL.does trivial (EX.call rfl cl9 rfl ((At_b H ok hn1 (by omega) (by omega) (by constructor <;> omega)))) ?_
                rintro _ w ⟨s1, a, b, rfl, ha, hb, ok1, hask, H⟩
                refine JL.nil ?_
                exact hk2 s1 _ _ ⟨rfl, rfl, rfl, rfl, rfl, rfl, rfl, trivial⟩ trivial ⟨ok1, hask, H⟩
              · skip
                refine J.region ?_
                refine JL.go trivial (RX.movev (v := Value.pointer _) rfl) ?_
                refine JL.go trivial (RX.movev (v := Value.int _ _) rfl) ?_
                refine JL.does trivial (EX.call rfl cl10 rfl ((List_b H ok hn1 (by omega) (by omega)))) ?_
                rintro _ w ⟨s1, q3, cq3, xs3, sl3, rfl, ho3, hx3, ok1, hask, H⟩
                replace H := H.drop
                refine JL.nil ?_
                exact hk2 s1 _ _ ⟨rfl, rfl, rfl, rfl, rfl, rfl, rfl, trivial⟩ trivial ⟨ok1, hask, H⟩
            · skip
              clear H
              rintro z ρ w ⟨okz, hask, H⟩
              obtain ⟨hpz, hz2, hz3⟩ := ask_there hp hask e1 e2
              refine J.seq ?_
              refine J.region ?_
              refine JL.go trivial (RX.movev (v := Value.pointer _) rfl) ?_
              refine JL.does trivial (EX.call rfl cl18 rfl ((sizes_b H okz))) ?_
              rintro _ w ⟨zs, pz, cz, slz, rfl, hzp, hzs, hoz, H⟩
              replace H := ((H.pull 3 rfl).pull 3 rfl).pull 3 rfl
              replace H : Hp w0 w (z.tb t 0 :: z.mp :: z.ts :: slz :: sl2 :: F) := H
              have hzlt := lt_of_le hzs (hzp.nodup_iff.2 okz.ndk)
              have hzll : zs.length = th2.length := by rw [hzp.length_eq, hpz.length_eq]
              have hzl2 : zs.length ≤ 16384 := by rw [hzp.length_eq]; exact okz.len
              refine JL.go trivial (RX.movev (v := Value.tuple _) rfl) ?_
              refine JL.go trivial (RX.extract rfl rfl) ?_
              refine JL.go trivial (RX.extract rfl rfl) ?_
              refine JL.go trivial (RX.assignv (v := Value.slice _ _ _) rfl) ?_
              refine JL.go trivial (RX.assignv (v := Value.bool _) rfl) ?_
              refine JL.nil ?_
              refine J.seq ?_
              refine J.seq ?_
              refine J.region ?_
              refine JL.go trivial (RX.movev (v := Value.bool _) rfl) ?_
              refine JL.go trivial (RX.not rfl) ?_
              refine JL.go trivial (RX.movev (v := Value.bool _) rfl) ?_
              refine JL.go ⟨_, rfl, rfl⟩ (RX.movev (v := Value.pointer _) rfl) ?_
              refine JL.does ⟨_, rfl, rfl⟩ (EX.call rfl cl12 rfl ((Made_b H))) ?_
              rintro _ w ⟨rfl, H⟩
              refine JL.go ⟨_, rfl, rfl⟩ (RX.movev (v := Value.int _ _) rfl) ?_
              refine JL.go ⟨_, rfl, rfl⟩ (RX.ne rfl rfl) ?_
              refine JL.go trivial (RX.pick_f rfl rfl) ?_
              refine JL.go trivial (RX.movev (v := Value.bool _) rfl) ?_
              refine JL.go ⟨_, rfl, (decide_eq_false (fun h => h hz2))⟩ (RX.movev (v := Value.slice _ _ _) rfl) ?_
              refine JL.go ⟨_, rfl, (decide_eq_false (fun h => h hz2))⟩ (RX.len_slice rfl (by rw [sl22]; rfl) rfl) ?_
              refine JL.go ⟨_, rfl, (decide_eq_false (fun h => h hz2))⟩ (RX.movev (v := Value.slice _ _ _) rfl) ?_
              refine JL.go ⟨_, rfl, (decide_eq_false (fun h => h hz2))⟩ (RX.len_slice rfl (by rw [sl22]; rfl) rfl) ?_
              refine JL.go ⟨_, rfl, (decide_eq_false (fun h => h hz2))⟩ (RX.ne rfl rfl) ?_
              refine JL.go trivial (RX.pick_f rfl (decide_eq_false (fun h => h hz2))) ?_
              refine JL.nil ?_
              refine J.cond_f rfl (decide_eq_false (fun h => h (by omega))) ?_
              refine J.skip ?_
              refine J.seq ?_
              refine J.region ?_
              refine JL.go trivial (RX.movev (v := Value.slice _ _ _) rfl) ?_
              refine JL.go trivial (RX.len_slice rfl (by rw [sl22]; rfl) rfl) ?_
              refine JL.go trivial (RX.move) ?_
              refine JL.nil ?_
              refine J.block ?_
              refine J.loop (ι := Nat) (S := fun k => [(119, .int .i64 (k : Nat))]) (Φ := fun k w => k ≤ zs.length ∧ Hp w0 w (z.tb t 0 :: z.mp :: z.ts :: slz :: sl2 :: F)) (μ := fun k => zs.length - k) (C := [(1, _), (5, _), (6, _), (7, _), (13, _), (21, _), (22, _), (23, _), (118, _)]) 0 ⟨rfl, rfl, rfl, rfl, rfl, rfl, rfl, rfl, rfl, trivial⟩ ⟨rfl, trivial⟩ ?_ ?_
              · exact ⟨by omega, H⟩
              clear H
              rintro k ρ w ⟨hk, H⟩ IH3
              refine J.seq ?_
              refine J.region ?_
              refine JL.go trivial (RX.lt rfl rfl) ?_
              refine JL.nil ?_
              refine J.seq ?_
              refine J.cond_d rfl (fun hlk2 => ?_) (fun hlk2 => ?_)
              · skip
                refine J.skip ?_
                refine J.seq ?_
                refine J.block ?_
                refine J.seq ?_
                refine J.region ?_
                refine JL.go trivial (RX.movev (v := Value.int _ _) rfl) ?_
                refine JL.go trivial (RX.assignv (v := Value.int _ _) rfl) ?_
                refine JL.nil ?_
                refine J.seq ?_
                refine J.quietH H hmix (by kernel_rfl) ?_
                refine JQ.go trivial (fun w H => RX.movev (v := Value.int _ _) rfl) ?_
                refine JQ.go trivial (fun w H => RX.gt rfl rfl) ?_
                refine JQ.go trivial (fun w H => RX.movev (v := Value.bool _) rfl) ?_
                refine JQ.splitS 124 rfl (fun hk0 => ?_) (fun hk0 => ?_)
                · skip
                  first | have hk0p := of_decide_eq_true hk0 | skip
                  have hk1 := of_decide_eq_true hk0
                  obtain ⟨u, hu⟩ : ∃ u, zs[k]? = some u := ⟨_, List.getElem?_eq_getElem (by omega)⟩
                  obtain ⟨v, hv⟩ : ∃ v, zs[k - 1]? = some v := ⟨_, List.getElem?_eq_getElem (by omega)⟩
                  have huv := pair_get hzlt (by omega) hu hv
                  obtain ⟨b1, o1, rfl, _⟩ := (hoz.slAt (L := F)).some (by rw [intsV_len]; omega)
                  refine JQ.go ⟨_, rfl, hk0⟩ (fun w H => RX.movev (v := Value.slice _ _ _) rfl) ?_
                  refine JQ.go ⟨_, rfl, hk0⟩ (fun w H => RX.movev (v := Value.int _ _) rfl) ?_
                  refine JQ.go ⟨_, rfl, hk0⟩ (fun w H => RX.indexAddr rfl rfl sl22 (by omega) (by omega) (o' := o1 + k) (by omega)) ?_
                  refine JQ.go ⟨_, rfl, hk0⟩ (fun w H => RX.loadS H (SlAt.cons (SlAt.cons (SlAt.cons hoz.slAt))) rfl (j := k) rfl (intsV_get hu) one3) ?_
                  refine JQ.go ⟨_, rfl, hk0⟩ (fun w H => RX.movev (v := Value.slice _ _ _) rfl) ?_
                  refine JQ.go ⟨_, rfl, hk0⟩ (fun w H => RX.movev (v := Value.int _ _) rfl) ?_
                  refine JQ.go ⟨_, rfl, hk0⟩ (fun w H => RX.sub rfl rfl (w_i64 (r := ((k - 1 : Nat) : Int)) (by omega) (by omega) (by omega))) ?_
                  refine JQ.go ⟨_, rfl, hk0⟩ (fun w H => RX.indexAddr rfl rfl sl22 (by omega) (by omega) (o' := o1 + (k - 1)) (by omega)) ?_
                  refine JQ.go ⟨_, rfl, hk0⟩ (fun w H => RX.loadS H (SlAt.cons (SlAt.cons (SlAt.cons hoz.slAt))) rfl (j := k - 1) rfl (intsV_get hv) one3) ?_
                  refine JQ.go ⟨_, rfl, hk0⟩ (fun w H => RX.le rfl rfl) ?_
                  refine JQ.go trivial (fun w H => RX.pick_t rfl hk0) ?_
                  refine JQ.nil fun w H => ?_
                  refine J.cond_d rfl (fun huv2 => ?_) (fun huv2 => ?_)
                  · skip
                    exfalso
                    omega
                  · skip
                    refine J.skip ?_
                    refine J.inBlock ?_
                    refine J.region ?_
                    refine JL.go trivial (RX.add rfl rfl (w_i64 (r := ((k + 1 : Nat) : Int)) (by omega) (by omega) (by omega))) ?_
                    refine JL.go trivial (RX.movev (v := Value.int _ _) rfl) ?_
                    refine JL.nil ?_
                    exact IH3 (k + 1) _ _ (by omega) ⟨rfl, rfl, rfl, rfl, rfl, rfl, rfl, rfl, rfl, trivial⟩ ⟨rfl, trivial⟩ ⟨by omega, H⟩
                · skip
                  first | have hk0p := of_decide_eq_false hk0 | skip
                  refine JQ.no ⟨_, rfl, gno hk0⟩ ?_
                  refine JQ.no ⟨_, rfl, gno hk0⟩ ?_
                  refine JQ.no ⟨_, rfl, gno hk0⟩ ?_
                  refine JQ.no ⟨_, rfl, gno hk0⟩ ?_
                  refine JQ.no ⟨_, rfl, gno hk0⟩ ?_
                  refine JQ.no ⟨_, rfl, gno hk0⟩ ?_
                  refine JQ.no ⟨_, rfl, gno hk0⟩ ?_
                  refine JQ.no ⟨_, rfl, gno hk0⟩ ?_
                  refine JQ.no ⟨_, rfl, gno hk0⟩ ?_
                  refine JQ.no ⟨_, rfl, gno hk0⟩ ?_
                  refine JQ.go trivial (fun w H => RX.pick_f rfl hk0) ?_
                  refine JQ.nil fun w H => ?_
                  refine J.cond_f rfl rfl ?_
                  refine J.skip ?_
                  refine J.inBlock ?_
                  refine J.region ?_
                  refine JL.go trivial (RX.add rfl rfl (w_i64 (r := ((k + 1 : Nat) : Int)) (by omega) (by omega) (by omega))) ?_
                  refine JL.go trivial (RX.movev (v := Value.int _ _) rfl) ?_
                  refine JL.nil ?_
                  exact IH3 (k + 1) _ _ (by omega) ⟨rfl, rfl, rfl, rfl, rfl, rfl, rfl, rfl, rfl, trivial⟩ ⟨rfl, trivial⟩ ⟨by omega, H⟩
              · skip
                refine J.exit rfl ?_
                refine J.inBlock ?_
                refine J.region ?_
                refine JL.go trivial (RX.add rfl rfl (w_i64 (r := ((i + 1 : Nat) : Int)) (by omega) (by omega) (by omega))) ?_
                refine JL.go trivial (RX.movev (v := Value.int _ _) rfl) ?_
                refine JL.nil ?_
                subst hz2
                exact IH (i + 1, z, th2, p2, c2, sl2) _ _ (by simp only; omega) ⟨rfl, rfl, rfl, rfl, trivial⟩ ⟨rfl, rfl, rfl, trivial⟩ ⟨by simp only; omega, okz, by simp only; omega, hpz, ho2, (((H.pull 3 rfl).drop))⟩
  · skip
    refine J.exit rfl ?_
    refine J.seq ?_
    refine J.region ?_
    refine JL.go trivial (RX.assign) ?_
    refine JL.nil ?_
    refine J.ret1 (v := Value.bool _) Tryd.func4 rfl rfl ?_
    exact ⟨_, rfl, rfl, H.drop.drop.drop.drop⟩
end Go.Proofs.YtmppcnbkfjeabaaDoor
