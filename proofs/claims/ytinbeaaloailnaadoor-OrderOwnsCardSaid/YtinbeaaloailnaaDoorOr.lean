/- A text read: what panics is recovered. -/
import Derived.Test.YtinbeaaloailnaaDoorOp
namespace Go.Proofs.YtinbeaaloailnaaDoor
open Go Go.Eng
set_option maxRecDepth 100000
set_option linter.unusedVariables false
set_option linter.unusedSimpArgs false
theorem cl46 : callable Tryd.prog 46 = true := by kernel_rfl
theorem one4 : oneOf Tryd.prog 4 = true := by kernel_rfl
theorem sz4 : szOf Tryd.prog 4 = some 1 := by kernel_rfl
theorem ud77 : Tryd.prog.underlying 77 = some (.int .i64) := by kernel_rfl
theorem zr3 : (Tryd.prog.info? 3).bind (·.zero) = some (.int .i64 0) := by kernel_rfl
theorem zr4 : (Tryd.prog.info? 4).bind (·.zero) = some (.bool false) := by kernel_rfl
theorem zr77 : (Tryd.prog.info? 77).bind (·.zero) = some (.int .i64 0) := by kernel_rfl

section
variable {P : Program} {f : FuncId} {n : Nat} {R : Ending → World → Prop} {k : List Item} {σ : Env} {w w0 : World} {L : List Seg} {ops : Array Oper} {o : Oper} {rest : List Oper} {Q : Exit → Act → World → Prop}
/-- Operations one behind the other, up to whatever end. -/
def WL (P : Program) (n : Nat) (ops : Array Oper) (Q : Exit → Act → World → Prop) (l : List Oper) (σ : Env) (w : World) : Prop := ∀ a, Ag [] n σ a → wpList P ops Q l a w
theorem WL.nil (h : ∀ a, Ag [] n σ a → Q .normal a w) : WL P n ops Q [] σ w := fun a ha => wpList_nil (h a ha)
theorem WL.does {Φ : Value → World → Prop} (hg : o.guard = none) (hd : Does P (ev n σ) o w Φ) (h : ∀ v w', Φ v w' → WL P n ops Q rest (updO σ o.dst v) w') : WL P n ops Q (o :: rest) σ w := by
  intro a ha
  have w1 : ∀ y, Region.wanted o y = true := fun y => by simp [Region.wanted, hg]
  simp only [wpList, w1, if_true]
  exact .inl (wp_of_does (by rw [ha.eval]; exact hd) fun v w' hΦ => h v w' hΦ _ (ha.put _ _))
theorem WL.go {v : Value} (hg : o.guard = none) (hr : Runs P (ev n σ) o w v) (h : WL P n ops Q rest (updO σ o.dst v) w) : WL P n ops Q (o :: rest) σ w :=
  WL.does (Φ := fun u w' => u = v ∧ w' = w) hg (Does.of_run hr ⟨rfl, rfl⟩) fun _ _ ⟨hu, hw⟩ => by rw [hu, hw]; exact h
/-- The same in a deferred call, where recover looks at the frame below. -/
def WR (P : Program) (n : Nat) (ops : Array Oper) (Q : Exit → Act → List Frame → World → Prop) (l : List Nat) (σ : Env) (cs : List Frame) (w : World) : Prop := ∀ a, Ag [] n σ a → wpOpsS P ops Q l a cs w
theorem WR.nil {Q : Exit → Act → List Frame → World → Prop} {cs : List Frame} (h : ∀ a, Ag [] n σ a → Q .normal a cs w) : WR P n ops Q [] σ cs w := fun a ha => h a ha
theorem WR.go {Q : Exit → Act → List Frame → World → Prop} {cs : List Frame} {l : List Nat} {i : Nat} {v : Value} (hi : ops[i]? = some o) (hg : o.guard = none) (hr : Runs P (ev n σ) o w v) (h : WR P n ops Q l (updO σ o.dst v) cs w) : WR P n ops Q (i :: l) σ cs w := by
  intro a ha
  have w1 : ∀ y, Region.wanted o y = true := fun y => by simp [Region.wanted, hg]
  simp only [wpOpsS, hi, w1, if_true]
  rw [ha.eval]
  unfold Runs at hr
  rw [hr]
  exact h _ (ha.put _ _)
theorem WR.recover {Q : Exit → Act → List Frame → World → Prop} {cs : List Frame} {l : List Nat} {i : Nat} {v : Value} {cs' : List Frame} (hi : ops[i]? = some o) (hg : o.guard = none) (hr : (execOp (ev n σ) o).run P w = .ok .recover w)
    (hc : recoverD cs = some (v, cs')) (h : WR P n ops Q l (updO σ o.dst v) cs' w) : WR P n ops Q (i :: l) σ cs w := by
  intro a ha
  have w1 : ∀ y, Region.wanted o y = true := fun y => by simp [Region.wanted, hg]
  simp only [wpOpsS, hi, w1, if_true]
  rw [ha.eval, hr]
  simp only [hc]
  exact h _ (ha.put _ _)
theorem WR.idle {Q : Exit → Act → List Frame → World → Prop} {cs : List Frame} {l : List Nat} {i : Nat} (hi : ops[i]? = some o) (hg : o.guard = none) (hr : (execOp (ev n σ) o).run P w = .ok .recover w)
    (hc : recoverD cs = none) (h : WR P n ops Q l (updO σ o.dst .nilIface) cs w) : WR P n ops Q (i :: l) σ cs w := by
  intro a ha
  have w1 : ∀ y, Region.wanted o y = true := fun y => by simp [Region.wanted, hg]
  simp only [wpOpsS, hi, w1, if_true]
  rw [ha.eval, hr]
  simp only [hc]
  exact h _ (ha.put _ _)
end
section
variable {P : Program} {ρ : Operand → Value} {w w0 : World} {L : List Seg} {d : Option Tmp} {ty : TypeId} {pos : String} {af : Array Edge} {g : Option (Nat × Bool)} {x y : Operand}
theorem run_recover : (execOp ρ ⟨d, .call { callee := .builtin .recover, args := #[], argTypes := #[] }, ty, pos, af, g⟩).run P w = .ok .recover w := by
  simp [execOp, resolve, invoke, builtin]
theorem RX.assertYes {xt t : TypeId} {u : TypeDesc} {v : Value} (hx : ρ x = .iface t v) (ht : P.underlying t = some u) (hn : ∀ ms, u ≠ .interface ms) : Runs P ρ ⟨d, .typeAssert x xt t true, ty, pos, af, g⟩ w (.tuple #[v, .bool true]) := by
  have h : (Instr.typeAssert (.iface t v) xt t true).run P w = .ok (.tuple #[v, .bool true]) w := by
    unfold Instr.typeAssert
    cases u <;> first | (exact absurd rfl (hn _)) | simp [run_underlying ht]
  unfold Runs
  simp [execOp, hx, h]
theorem RX.assertNil {xt t : TypeId} {u : TypeDesc} {z : Value} (hx : ρ x = .nilIface) (ht : P.underlying t = some u) (hn : ∀ ms, u ≠ .interface ms) (hz : (P.info? t).bind (·.zero) = some z) : Runs P ρ ⟨d, .typeAssert x xt t true, ty, pos, af, g⟩ w (.tuple #[z, .bool false]) := by
  have hzv : (zeroValue t).run P w = .ok z w := by
    have h1 : (program : Sem Program).run P w = .ok P w := rfl
    obtain ⟨i, hi, hz'⟩ := Option.bind_eq_some_iff.1 hz
    simp [zeroValue, typeInfo, h1, hi, hz']
  have h : (Instr.typeAssert .nilIface xt t true).run P w = .ok (.tuple #[z, .bool false]) w := by
    unfold Instr.typeAssert
    cases u <;> first | (exact absurd rfl (hn _)) | simp [run_underlying ht, hzv]
  unfold Runs
  simp [execOp, hx, h]
end

theorem ag_enter {n : Nat} {l : List Value} (hl : l.length ≤ n) : Ag [] n (envOf l) { tmps := l.toArray ++ Array.replicate (n - l.toArray.size) undef, defers := [] } := by
  refine ⟨by simp; omega, fun t ht => ?_, rfl⟩
  rw [envOf_get, Array.getD_eq_getD_getElem?, Array.getElem?_append]
  simp only [List.size_toArray, List.getElem?_toArray]
  split
  · rfl
  · rename_i hge
    rw [Array.getElem?_replicate, List.getElem?_eq_none (by omega)]
    split <;> rfl
theorem run_loadOne {P : Program} {w0 w : World} {L : List Seg} {t T b i : Nat} {v : Value} (H : Hp w0 w L) (hi : L[i]? = some [(b, cel [v] T)]) (ht : oneOf P t = true) : (loadVar t ⟨b, 0, none⟩).run P w = .ok v w := by
  have := RX.load (P := P) (ρ := fun _ => .pointer (some ⟨b, 0, none⟩)) (d := none) (ty := 0) (pos := "") (af := #[]) (g := none) (x := .tmp 0) H rfl hi (o := 0) rfl ht
  unfold Runs at this
  simp only [execOp, Instr.loadAt, Instr.sureAddr, Sem.run_bind, Sem.run_pure, Result.andThen_ok] at this
  generalize (loadVar t ⟨b, 0, none⟩).run P w = r at this
  cases r with
  | halt h w2 => cases this
  | ok v w2 => simp at this; rw [this.1, this.2]


def b3V (b2 b3 b4 : Nat) : List Value := [.pointer (some ⟨b2, 0, none⟩), .pointer (some ⟨b3, 0, none⟩), .pointer (some ⟨b4, 0, none⟩)]
theorem catch_idle {w : World} {b2 b3 b4 : Nat} : CallsD Tryd.prog 46 (b3V b2 b3 b4).toArray .returning w fun e u' w' => e = .returned (.tuple #[]) ∧ u' = .returning ∧ w' = w := by
  refine callsD_of_wpS Tryd.func46 rfl fun c₀ cs hu => ?_
  apply wpS_seq
  apply wpS_region
  have hag : Ag [] 13 (envOf (b3V b2 b3 b4)) { tmps := (b3V b2 b3 b4).toArray ++ Array.replicate (13 - (b3V b2 b3 b4).toArray.size) undef, defers := [] } := ag_enter (by simp [b3V])
  refine (?_ : WR Tryd.prog 13 _ _ [0, 1, 2, 3, 4, 5, 6] _ _ _) _ hag
  refine WR.idle rfl rfl run_recover (by simp [recoverD, hu]) ?_
  refine WR.go rfl rfl (RX.assertNil rfl ud77 (by simp) zr77) ?_
  refine WR.go rfl rfl (RX.movev (v := Value.tuple _) rfl) ?_
  refine WR.go rfl rfl (RX.extract (v := Value.int _ _) rfl rfl) ?_
  refine WR.go rfl rfl (RX.extract (v := Value.bool _) rfl rfl) ?_
  refine WR.go rfl rfl (RX.assignv (v := Value.int _ _) rfl) ?_
  refine WR.go rfl rfl (RX.assignv (v := Value.bool _) rfl) ?_
  refine WR.nil fun a ha => ?_
  refine wpS_seq ?_
  refine wpS_of_wp (wp_region_lit ((?_ : WL Tryd.prog 13 _ _ _ _ _) a ha))
  refine WL.go rfl (RX.movev (v := Value.bool _) rfl) ?_
  refine WL.nil fun a ha => ?_
  refine wpS_cond (t := false) (by rw [ha.eval]; rfl) ?_
  refine wpS_of_wp (wp_skip ?_)
  exact ⟨ha.defers, .returning, by cases c₀; simp_all, _, results0 rfl _, rfl, rfl, rfl⟩
theorem catch_pan {w0 w : World} {F : List Seg} {b2 b3 b4 z : Nat} {l3 l4 : Value} {t2 : List Value} (H : Hp w0 w ([(b4, cel [l4] 4)] :: [(b3, cel [l3] 3)] :: [(b2, cel t2 25)] :: F)) (h2 : t2.length = 3) :
    CallsD Tryd.prog 46 (b3V b2 b3 b4).toArray (.panicking [{ v := lostV z, recovered := false }]) w fun e u' w' => e = .returned (.tuple #[]) ∧ u' = .panicking [{ v := lostV z, recovered := true }] ∧
      Hp w0 w' ([(b4, cel [.bool false] 4)] :: [(b3, cel [.int .i64 (z : Nat)] 3)] :: [(b2, cel (tv 0 0 none 0 0) 25)] :: F) := by
  refine callsD_of_wpS Tryd.func46 rfl fun c₀ cs hu => ?_
  apply wpS_seq
  apply wpS_region
  have hag : Ag [] 13 (envOf (b3V b2 b3 b4)) { tmps := (b3V b2 b3 b4).toArray ++ Array.replicate (13 - (b3V b2 b3 b4).toArray.size) undef, defers := [] } := ag_enter (by simp [b3V])
  refine (?_ : WR Tryd.prog 13 _ _ [0, 1, 2, 3, 4, 5, 6] _ _ _) _ hag
  refine WR.recover (v := lostV z) (cs' := { c₀ with mode := .panicking [{ v := lostV z, recovered := true }] } :: cs) rfl rfl run_recover (by simp [recoverD, hu]) ?_
  refine WR.go rfl rfl (RX.assertYes (v := .int .i64 (z : Nat)) rfl ud77 (by simp)) ?_
  refine WR.go rfl rfl (RX.movev (v := Value.tuple _) rfl) ?_
  refine WR.go rfl rfl (RX.extract (v := Value.int _ _) rfl rfl) ?_
  refine WR.go rfl rfl (RX.extract (v := Value.bool _) rfl rfl) ?_
  refine WR.go rfl rfl (RX.assignv (v := Value.int _ _) rfl) ?_
  refine WR.go rfl rfl (RX.assignv (v := Value.bool _) rfl) ?_
  refine WR.nil fun a ha => ?_
  refine wpS_seq ?_
  refine wpS_of_wp (wp_region_lit ((?_ : WL Tryd.prog 13 _ _ _ _ _) a ha))
  refine WL.go rfl (RX.movev (v := Value.bool _) rfl) ?_
  refine WL.nil fun a ha => ?_
  refine wpS_cond (t := true) (by rw [ha.eval]; rfl) ?_
  refine wpS_of_wp (wp_region_lit ((?_ : WL Tryd.prog 13 _ _ _ _ _) a ha))
  refine WL.go rfl (RX.build (pv := []) (res := tv 0 0 none 0 0) rfl (by kernel_rfl)) ?_
  refine WL.go rfl (RX.movev (v := Value.int _ _) rfl) ?_
  refine WL.does rfl (EX.storeAgg H rfl rfl (i := 2) (vs := tv 0 0 none 0 0) (l' := tv 0 0 none 0 0) rfl tv_cell (by simp [h2]) sz25 (setN_full h2) rfl) ?_
  rintro _ w H
  refine WL.does rfl (EX.store (v := Value.int _ _) H rfl rfl (i := 1) (l' := [.int .i64 (z : Nat)]) rfl rfl (by simp) sz3 rfl rfl) ?_
  rintro _ w H
  refine WL.does rfl (EX.store (v := Value.bool _) H rfl rfl (i := 0) (l' := [.bool false]) rfl rfl (by simp) sz4 rfl rfl) ?_
  rintro _ w H
  refine WL.nil fun a ha => ?_
  exact ⟨ha.defers, _, rfl, _, results0 rfl _, rfl, rfl, H⟩
theorem leaves_nil {P : Program} {w : World} {fn : Func} {tmps : Array Value} {R : Ending → World → Prop} (h : ∃ v, (results fn tmps).run P w = .ok v w ∧ R (.returned v) w) : Leaves P fn tmps R [] .returning w := h
theorem results_ccc {P : Program} {w0 w : World} {L : List Seg} {n : Nat} {D : List Deferred} {σ : Env} {fn : Func} {a t u s tu ts b2 b3 b4 i j k T2 T3 T4 : Nat} {l : List Value} {x y : Value} {ac : Act} (ha : Ag D n σ ac) (h : fn.results = #[.cell a t, .cell u tu, .cell s ts])
    (hp2 : ev n σ (.tmp a) = .pointer (some ⟨b2, 0, none⟩)) (hp3 : ev n σ (.tmp u) = .pointer (some ⟨b3, 0, none⟩)) (hp4 : ev n σ (.tmp s) = .pointer (some ⟨b4, 0, none⟩)) (H : Hp w0 w L)
    (hi : L[i]? = some [(b2, cel l T2)]) (hj : L[j]? = some [(b3, cel [x] T3)]) (hk : L[k]? = some [(b4, cel [y] T4)]) (hl : l.length = 3) (ht : aggOf P t = some 3) (hu : oneOf P tu = true) (hs : oneOf P ts = true) : (results fn ac.tmps).run P w = .ok (.tuple #[.agg l.toArray, x, y]) w := by
  have h1 := ha.tmp a
  have h2 := ha.tmp u
  have h3 := ha.tmp s
  rw [hp2, Array.getD_eq_getD_getElem?] at h1
  rw [hp3, Array.getD_eq_getD_getElem?] at h2
  rw [hp4, Array.getD_eq_getD_getElem?] at h3
  have hv : readN l 0 3 = some l := by unfold readN; simp [hl, List.take_of_length_le (Nat.le_of_eq hl)]
  have e1 := run_loadAgg (P := P) H hi hv ht
  have e2 := run_loadOne (P := P) H hj hu
  have e3 := run_loadOne (P := P) H hk hs
  simp [results, h, h1, h2, h3, asAddr, e1, e2, e3]

def ReadO (s : List UInt8) (v : Value) (sg : Seg) : Prop :=
  (∃ t r vs, pO (s.length + 1) s = (some t, r) ∧ v = .tuple #[.agg vs.toArray, .int .i64 (posn s r : Nat), .bool (decide (((posn s r : Nat) : Int) = (s.length : Int)))] ∧ t.Own vs sg) ∨
  ∃ r, pO (s.length + 1) s = (none, r) ∧ v = .tuple #[.agg (tv 0 0 none 0 0).toArray, .int .i64 (posn s r : Nat), .bool false] ∧ sg = []
theorem inv_read {w : World} {c : Array Value} : (invoke (.fn (.func 46) c) #[]).run Tryd.prog w = .ok (.enter 46 c) w := by simp [invoke, callFunc_run cl46]
theorem read_b {w0 w : World} {F : List Seg} (H : Hp w0 w F) {s : List UInt8} (hs : s.length ≤ 1099511627776) : Ret Tryd.prog 33 [.string ⟨s.toArray⟩] w fun v w' => ∃ sg, ReadO s v sg ∧ Hp w0 w' (sg :: F) := by
  refine Calls.of_J (n := 24) Tryd.func33 rfl rfl rfl ?_
  refine J.seq ?_
  refine J.region ?_
  refine JL.does trivial (EX.alloc H zr25 rfl) ?_
  rintro _ w ⟨b2, rfl, H⟩
  refine JL.does trivial (EX.alloc H zr3 rfl) ?_
  rintro _ w ⟨b3, rfl, H⟩
  refine JL.does trivial (EX.alloc H zr4 rfl) ?_
  rintro _ w ⟨b4, rfl, H⟩
  refine JL.nil ?_
  refine J.seq ?_
  refine J.region ?_
  refine JL.go trivial (RX.movev (v := Value.string _) rfl) ?_
  refine JL.go trivial (RX.build (pv := [(0, .string ⟨s.toArray⟩)]) (res := [.string ⟨s.toArray⟩, .int .i64 0]) rfl (by kernel_rfl)) ?_
  refine JL.does trivial (EX.box (v := Value.agg _) H rfl rfl) ?_
  rintro _ w ⟨bp, rfl, H⟩
  refine JL.go trivial (RX.assignv (v := Value.pointer _) rfl) ?_
  refine JL.nil ?_
  replace H : Hp w0 w (PB bp s s :: [(b4, cel [.bool false] 4)] :: [(b3, cel [.int .i64 0] 3)] :: [(b2, cel (tv 0 0 none 0 0) 25)] :: F) := by unfold PB PZ; rw [posn_self]; exact H
  refine J.seq ?_
  refine J.defer (d := { target := .fn (.func 46) (b3V b2 b3 b4).toArray, args := #[] }) rfl (RX.makeFunc (fv := []) (cv := b3V b2 b3 b4) rfl rfl) rfl rfl (run_defer rfl) ?_
  refine J.seq ?_
  refine J.regionP ?_
  refine JLP.go trivial (RX.movev (v := Value.pointer _) rfl) ?_
  refine JLP.doesL Tryd.func33 trivial (EX.callP rfl cl47 rfl (order_b (s.length + 1) _ _ _ s s bp (List.suffix_refl s) hs (Nat.lt_succ_self _) H)) ?_ ?_
  · rintro _ w ⟨r, hpo, rfl, z, H⟩ a ha
    refine leaves_cons (f := 46) (args := (b3V b2 b3 b4).toArray) (by simp) inv_read ?_
    refine (catch_pan H.drop rfl).mono ?_
    rintro e u2 w2 ⟨rfl, rfl, H⟩
    exact leaves_nil ⟨_, results_ccc ha rfl rfl rfl rfl H (i := 2) (j := 1) (k := 0) rfl rfl rfl rfl ag25 one3 one4, _, rfl, [], .inr ⟨r, hpo, rfl, rfl⟩, H.drop.drop.drop.nil⟩
  rintro _ w ⟨t, r, vs, sg, hpo, rfl, ho, H⟩
  obtain ⟨k, n, p, m, c, rfl⟩ := ho.shape
  refine JLP.does trivial (EX.storeAgg H rfl rfl (i := 4) (vs := tv k n p m c) (l' := tv k n p m c) rfl tv_cell (by simp) sz25 rfl rfl) ?_
  rintro _ w H
  refine JLP.nil ?_
  refine J.seq ?_
  replace H := ((H.pull 4 rfl).pull 4 rfl).pull 4 rfl
  refine J.held (fun w => Hp w0 w (sg :: PB bp s r :: F)) hmix fun w hs => ?_
  replace H := H.same hs; clear hs
  have hS : Hp w0 w (sg :: PB bp s r :: F) := by first | exact H | exact H.drop | exact H.drop.drop | exact H.drop.drop.drop | exact H.drop.drop.drop.drop | exact H.drop.drop.drop.drop.drop | exact H.drop.drop.drop.drop.drop.drop | exact H.drop.drop.drop.drop.drop.drop.drop | exact H.drop.drop.drop.drop.drop.drop.drop.drop
  refine JH.take 1 (listed' := [false, true, false, false, false, false, false, false, false, false, false, false, false, false, false]) rfl (by kernel_rfl) (by kernel_rfl) (by kernel_rfl) rfl trivial (fun w H => RX.movev (v := Value.pointer _) rfl) hS ?_
  refine JH.take 2 (listed' := [false, true, true, false, false, false, false, false, false, false, false, false, false, false, false]) rfl (by kernel_rfl) (by kernel_rfl) (by kernel_rfl) rfl trivial (fun w H => RX.nilCheck rfl) hS ?_
  refine JH.take 3 (listed' := [false, true, true, true, false, false, false, false, false, false, false, false, false, false, false]) rfl (by kernel_rfl) (by kernel_rfl) (by kernel_rfl) rfl trivial (fun w H => RX.fieldAddr rfl fo76_1 rfl) hS ?_
  refine JH.take 4 (listed' := [false, true, true, true, true, false, false, false, false, false, false, false, false, false, false]) rfl (by kernel_rfl) (by kernel_rfl) (by kernel_rfl) rfl trivial (fun w H => RX.load H rfl (i := 1) (v := .int .i64 (posn s r : Nat)) rfl rfl one3) hS ?_
  refine JH.take 5 (listed' := [false, true, true, true, true, true, false, false, false, false, false, false, false, false, false]) rfl (by kernel_rfl) (by kernel_rfl) (by kernel_rfl) rfl trivial (fun w H => RX.movev (v := Value.pointer _) rfl) hS ?_
  refine JH.take 6 (listed' := [false, true, true, true, true, true, true, false, false, false, false, false, false, false, false]) rfl (by kernel_rfl) (by kernel_rfl) (by kernel_rfl) rfl trivial (fun w H => RX.nilCheck rfl) hS ?_
  refine JH.take 7 (listed' := [false, true, true, true, true, true, true, true, false, false, false, false, false, false, false]) rfl (by kernel_rfl) (by kernel_rfl) (by kernel_rfl) rfl trivial (fun w H => RX.fieldAddr rfl fo76_1 rfl) hS ?_
  refine JH.take 8 (listed' := [false, true, true, true, true, true, true, true, true, false, false, false, false, false, false]) rfl (by kernel_rfl) (by kernel_rfl) (by kernel_rfl) rfl trivial (fun w H => RX.load H rfl (i := 1) (v := .int .i64 (posn s r : Nat)) rfl rfl one3) hS ?_
  refine JH.take 9 (listed' := [false, true, true, true, true, true, true, true, true, true, false, false, false, false, false]) rfl (by kernel_rfl) (by kernel_rfl) (by kernel_rfl) rfl trivial (fun w H => RX.movev (v := Value.string _) rfl) hS ?_
  refine JH.take 10 (listed' := [false, true, true, true, true, true, true, true, true, true, true, false, false, false, false]) rfl (by kernel_rfl) (by kernel_rfl) (by kernel_rfl) rfl trivial (fun w H => RX.len_string rfl ud9 (r := (s.length : Int)) (by rw [b_size])) hS ?_
  refine JH.take 11 (listed' := [false, true, true, true, true, true, true, true, true, true, true, true, false, false, false]) rfl (by kernel_rfl) (by kernel_rfl) (by kernel_rfl) rfl trivial (fun w H => RX.eq rfl rfl) hS ?_
  refine JH.all [0] (by kernel_rfl) (by decide) ?_
  refine JHO.go (listed' := [true, true, true, true, true, true, true, true, true, true, true, true, false, false, false]) rfl rfl trivial (RX.loadAgg H rfl (i := 2) (vs := tv k n p m c) rfl rfl ag25) hS ?_
  refine JH.all [12] (by kernel_rfl) (by decide) ?_
  refine JHO.does (listed' := [true, true, true, true, true, true, true, true, true, true, true, true, true, false, false]) rfl rfl trivial (EX.storeAgg H rfl rfl (i := 2) (vs := tv k n p m c) (l' := tv k n p m c) rfl tv_cell (by simp) sz25 rfl rfl) ?_
  rintro _ w H
  have hS : Hp w0 w (sg :: PB bp s r :: F) := by first | exact H | exact H.drop | exact H.drop.drop | exact H.drop.drop.drop | exact H.drop.drop.drop.drop | exact H.drop.drop.drop.drop.drop | exact H.drop.drop.drop.drop.drop.drop | exact H.drop.drop.drop.drop.drop.drop.drop | exact H.drop.drop.drop.drop.drop.drop.drop.drop
  refine ⟨hS, ?_⟩
  refine JH.all [13] (by kernel_rfl) (by decide) ?_
  refine JHO.does (listed' := [true, true, true, true, true, true, true, true, true, true, true, true, true, true, false]) rfl rfl trivial (EX.store (v := Value.int _ _) H rfl rfl (i := 1) (l' := [.int .i64 (posn s r : Nat)]) rfl rfl (by simp) sz3 rfl rfl) ?_
  rintro _ w H
  have hS : Hp w0 w (sg :: PB bp s r :: F) := by first | exact H | exact H.drop | exact H.drop.drop | exact H.drop.drop.drop | exact H.drop.drop.drop.drop | exact H.drop.drop.drop.drop.drop | exact H.drop.drop.drop.drop.drop.drop | exact H.drop.drop.drop.drop.drop.drop.drop | exact H.drop.drop.drop.drop.drop.drop.drop.drop
  refine ⟨hS, ?_⟩
  refine JH.all [14] (by kernel_rfl) (by decide) ?_
  refine JHO.does (listed' := [true, true, true, true, true, true, true, true, true, true, true, true, true, true, true]) rfl rfl trivial (EX.store (v := Value.bool _) H rfl rfl (i := 0) (l' := [.bool (decide (((posn s r : Nat) : Int) = (s.length : Int)))]) rfl rfl (by simp) sz4 rfl rfl) ?_
  rintro _ w H
  have hS : Hp w0 w (sg :: PB bp s r :: F) := by first | exact H | exact H.drop | exact H.drop.drop | exact H.drop.drop.drop | exact H.drop.drop.drop.drop | exact H.drop.drop.drop.drop.drop | exact H.drop.drop.drop.drop.drop.drop | exact H.drop.drop.drop.drop.drop.drop.drop | exact H.drop.drop.drop.drop.drop.drop.drop.drop
  refine ⟨hS, ?_⟩
  refine JH.done (by kernel_rfl) ?_
  refine J.ret_leaves Tryd.func33 fun a ha => ?_
  refine leaves_cons (f := 46) (args := (b3V b2 b3 b4).toArray) (by simp) inv_read ?_
  refine catch_idle.mono ?_
  rintro e u2 w2 ⟨rfl, rfl, rfl⟩
  exact leaves_nil ⟨_, results_ccc ha rfl rfl rfl rfl H (i := 2) (j := 1) (k := 0) rfl rfl rfl rfl ag25 one3 one4, _, rfl, sg, .inl ⟨t, r, _, hpo, rfl, ho⟩, (H.drop.drop.drop.pull 1 rfl).drop⟩
end Go.Proofs.YtinbeaaloailnaaDoor
