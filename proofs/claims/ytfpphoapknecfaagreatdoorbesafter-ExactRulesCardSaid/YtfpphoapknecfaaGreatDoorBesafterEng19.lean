/- General rules for stepping through a function: no program stands in them. -/
import Derived.Test.YtfpphoapknecfaaGreatDoorBesafterEng18
import Derived.Recover
import Derived.Laws.Build
namespace Go.Eng
open Go
variable {D : List Deferred}

/-- A call comes back with a value, or with a panic that nobody has met yet. -/
def RetP (P : Program) (g : FuncId) (l : List Value) (w : World) (Φ Ψ : Value → World → Prop) : Prop :=
  Calls P g l.toArray w fun e w' => (∃ v, e = .returned v ∧ Φ v w') ∨ ∃ v, e = .panicked [{ v := v, recovered := false }] ∧ Ψ v w'
theorem RetP.mono {P : Program} {g : FuncId} {l : List Value} {w : World} {Φ Ψ Φ' Ψ' : Value → World → Prop} (h : RetP P g l w Φ Ψ) (h1 : ∀ v w', Φ v w' → Φ' v w') (h2 : ∀ v w', Ψ v w' → Ψ' v w') : RetP P g l w Φ' Ψ' :=
  Calls.mono h fun _ _ h => h.imp (fun ⟨v, e, h⟩ => ⟨v, e, h1 _ _ h⟩) (fun ⟨v, e, h⟩ => ⟨v, e, h2 _ _ h⟩)
def DoesPR (P : Program) (Φ Ψ : Value → World → Prop) : Result Next → Prop
  | .ok (.value v) w' => Φ v w'
  | .ok .skip w' => Φ undef w'
  | .ok (.enter g args) w' => Calls P g args w' fun e w'' => (∃ v, e = .returned v ∧ Φ v w'') ∨ ∃ v, e = .panicked [{ v := v, recovered := false }] ∧ Ψ v w''
  | .halt (.panic v) w' => Ψ v w'
  | _ => False
def DoesP (P : Program) (ρ : Operand → Value) (o : Oper) (w : World) (Φ Ψ : Value → World → Prop) : Prop := DoesPR P Φ Ψ ((execOp ρ o).run P w)
/-- A region's end, in a frame that may panic: what is deferred runs then. -/
def Qp (D : List Deferred) (P : Program) (f : FuncId) (n : Nat) (R : Ending → World → Prop) (k : List Item) (e : Exit) (a : Act) (w : World) : Prop :=
  Qk D P (.fn f) n R k e a w ∨ ∃ ch fn, e = .panic ch ∧ P.funcs[f]? = some fn ∧ Leaves P fn a.tmps R a.defers (.panicking ch) w
def JLP (D : List Deferred) (P : Program) (f : FuncId) (n : Nat) (R : Ending → World → Prop) (ops : Array Oper) (l : List Oper) (k : List Item) (σ : Env) (w : World) : Prop :=
  ∀ a, Ag D n σ a → wpList P ops (Qp D P f n R k) l a w
def JAP (D : List Deferred) (P : Program) (f : FuncId) (n : Nat) (R : Ending → World → Prop) (ops : Array Oper) (fuel : Nat) (listed : Array Bool) (k : List Item) (σ : Env) (w : World) : Prop :=
  ∀ a, Ag D n σ a → wpAny P .any ops (Qp D P f n R k) fuel listed a w
def JOP (D : List Deferred) (P : Program) (f : FuncId) (n : Nat) (R : Ending → World → Prop) (ops : Array Oper) (fuel : Nat) (listed : List Bool) (k : List Item) (σ : Env) (w : World) (i : Nat) : Prop :=
  ∀ a, Ag D n σ a → wpOp P ops (Qp D P f n R k) i (wpAny P .any ops (Qp D P f n R k) fuel (listed.toArray.setIfInBounds i true)) a w

section
variable {P : Program} {f : FuncId} {n : Nat} {R : Ending → World → Prop} {k : List Item} {σ : Env} {w w0 : World} {ops : Array Oper} {o : Oper} {rest : List Oper}
theorem J.regionP_of {id : Nat} {dr : Bool} (h : ∀ a, Ag D n σ a → (Code.region id ops dr).wp P (Qp D P f n R k) a w) : J D P (.fn f) n R (.code (.region id ops dr) :: k) σ w := by
  intro a ha
  refine jk_of ?_
  intro b hb hk cs
  obtain ⟨e, a', w', hq, harr⟩ := h a ha b k cs
  rcases hq with ⟨rfl, _, _, hj⟩ | ⟨ch, fn, rfl, hf, hl⟩
  · obtain ⟨e2, w2, fr, hR, hc, hfn, hl⟩ := jk_to hj b hb hk cs
    exact ⟨e2, w2, fr, hR, Comes.of_steps harr hc, hfn, hl⟩
  · obtain ⟨todo, hs⟩ := harr
    obtain ⟨e', w'', fr', hR, hs', hfn, hlv⟩ := leaves_steps a'.defers (.panicking ch) w' { b.at a' todo with mode := .panicking ch } cs rfl rfl rfl (by show P.funcs[b.fn]? = some fn; rw [hb]; exact hf) hk hl
    exact ⟨e', w'', fr', hR, Comes.of_steps hs hs', hfn.trans hb, hlv⟩
theorem J.regionP {id : Nat} {l : List Oper} (h : JLP D P f n R l.toArray l k σ w) : J D P (.fn f) n R (.code (.region id l.toArray false) :: k) σ w :=
  J.regionP_of fun a ha => wp_region_lit (h a ha)
theorem JLP.nil (h : J D P (.fn f) n R k σ w) : JLP D P f n R ops [] k σ w :=
  fun a ha => wpList_nil (.inl ⟨rfl, ha.size, ha.defers, h a ha⟩)
theorem DoesP.of_does {ρ : Operand → Value} {Φ Ψ : Value → World → Prop} (h : Does P ρ o w Φ) : DoesP P ρ o w Φ Ψ := by
  unfold Does at h
  unfold DoesP
  revert h
  generalize (execOp ρ o).run P w = r
  intro h
  cases r with
  | halt x w' => exact h.elim
  | ok x w' =>
    cases x with
    | value v => exact h
    | skip => exact h
    | enter g args => exact Calls.mono h fun e w'' h => .inl h
    | _ => exact h.elim
theorem wp_of_doesP {a : Act} {Φ Ψ : Value → World → Prop} {K : Act → World → Prop} {Q : Exit → Act → World → Prop} (h : DoesP P a.eval o w Φ Ψ) (hK : ∀ v w', Φ v w' → K (a.put o.dst v) w')
    (hP : ∀ v w', Ψ v w' → Q (.panic [{ v := v, recovered := false }]) a w') : o.wp P a w K Q := by
  unfold DoesP at h
  unfold Oper.wp
  revert h
  generalize (execOp a.eval o).run P w = r
  intro h
  cases r with
  | halt x w' =>
    cases x with
    | panic v => exact hP _ _ h
    | _ => exact h.elim
  | ok x w' =>
    cases x with
    | value v => exact hK _ _ h
    | skip => exact hK _ _ h
    | enter g args =>
      refine Calls.mono h fun e w'' h => ?_
      rcases h with ⟨v, he, hΦ⟩ | ⟨v, he, hΨ⟩
      · rw [he]; exact hK _ _ hΦ
      · rw [he]; exact hP _ _ hΨ
    | _ => exact h.elim
/-- What a panic comes to, where nothing is deferred. -/
theorem qp_panic {fn : Func} {a : Act} {v : Value} (hf : P.funcs[f]? = some fn) (ha : Ag [] n σ a) (h : R (.panicked [{ v := v, recovered := false }]) w) : Qp [] P f n R k (.panic [{ v := v, recovered := false }]) a w :=
  .inr ⟨_, fn, rfl, hf, by rw [ha.defers]; exact h⟩
theorem JLP.doesP {fn : Func} {Φ Ψ : Value → World → Prop} (hf : P.funcs[f]? = some fn) (hg : GOk n σ ops o.guard) (hd : DoesP P (ev n σ) o w Φ Ψ)
    (hp : ∀ v w', Ψ v w' → R (.panicked [{ v := v, recovered := false }]) w') (h : ∀ v w', Φ v w' → JLP [] P f n R ops rest k (updO σ o.dst v) w') : JLP [] P f n R ops (o :: rest) k σ w := by
  intro a ha
  have hy : yielded ops a.tmps = yieldE n σ ops := funext (ha.yields ops)
  simp only [wpList, hy, hg.wanted, if_true]
  exact .inl (wp_of_doesP (by rw [ha.eval]; exact hd) (fun v w' hΦ => h v w' hΦ _ (ha.put _ _)) fun v w' hΨ => qp_panic hf ha (hp v w' hΨ))
/-- The same, where something is deferred. -/
theorem JLP.doesL {fn : Func} {Φ Ψ : Value → World → Prop} (hf : P.funcs[f]? = some fn) (hg : GOk n σ ops o.guard) (hd : DoesP P (ev n σ) o w Φ Ψ)
    (hp : ∀ v w', Ψ v w' → ∀ a, Ag D n σ a → Leaves P fn a.tmps R D (.panicking [{ v := v, recovered := false }]) w') (h : ∀ v w', Φ v w' → JLP D P f n R ops rest k (updO σ o.dst v) w') : JLP D P f n R ops (o :: rest) k σ w := by
  intro a ha
  have hy : yielded ops a.tmps = yieldE n σ ops := funext (ha.yields ops)
  simp only [wpList, hy, hg.wanted, if_true]
  exact .inl (wp_of_doesP (by rw [ha.eval]; exact hd) (fun v w' hΦ => h v w' hΦ _ (ha.put _ _)) fun v w' hΨ => .inr ⟨_, fn, rfl, hf, by rw [ha.defers]; exact hp v w' hΨ a ha⟩)
theorem JLP.does {Φ : Value → World → Prop} (hg : GOk n σ ops o.guard) (hd : Does P (ev n σ) o w Φ)
    (h : ∀ v w', Φ v w' → JLP D P f n R ops rest k (updO σ o.dst v) w') : JLP D P f n R ops (o :: rest) k σ w := by
  intro a ha
  have hy : yielded ops a.tmps = yieldE n σ ops := funext (ha.yields ops)
  simp only [wpList, hy, hg.wanted, if_true]
  refine .inl (wp_of_does (by rw [ha.eval]; exact hd) fun v w' hΦ => h v w' hΦ _ (ha.put _ _))
theorem JLP.go {v : Value} (hg : GOk n σ ops o.guard) (hr : Runs P (ev n σ) o w v) (h : JLP D P f n R ops rest k (updO σ o.dst v) w) : JLP D P f n R ops (o :: rest) k σ w :=
  JLP.does (Φ := fun u w' => u = v ∧ w' = w) hg (Does.of_run hr ⟨rfl, rfl⟩) fun _ _ ⟨hu, hw⟩ => by rw [hu, hw]; exact h
theorem JLP.no (hg : GNo n σ ops o.guard) (h : JLP D P f n R ops rest k (updO σ o.dst undef) w) : JLP D P f n R ops (o :: rest) k σ w := by
  intro a ha
  have hy : yielded ops a.tmps = yieldE n σ ops := funext (ha.yields ops)
  simp only [wpList, hy, hg.unwanted, if_false, Bool.false_eq_true]
  exact h _ (ha.put _ _)
theorem JLP.splitS {l : List Oper} {b : Bool} (t : Tmp) (_hb : ev n σ (.tmp t) = .bool b) (ht : b = true → JLP D P f n R ops l k σ w) (hf : b = false → JLP D P f n R ops l k σ w) : JLP D P f n R ops l k σ w := by
  cases b with
  | true => exact ht rfl
  | false => exact hf rfl
/-! A region of whatever order whose operations may panic. -/
theorem J.anyP {id : Nat} {l : List Oper} (hm : P.follows .mixedOrders = true)
    (h : ∀ w', Same w w' → JAP D P f n R l.toArray l.length (falses l.length).toArray k σ w') : J D P (.fn f) n R (.code (.region id l.toArray true) :: k) σ w :=
  J.regionP_of fun a ha => wp_region_any hm (by
    have := h { w with drawn := w.drawn + 1 } ⟨rfl, rfl, rfl, rfl⟩ a ha
    rw [falses_eq] at this
    simpa using this)
theorem JAP.all {fuel : Nat} {listed : List Bool} (rs : List Nat) (hr : Region.ready .any ops listed.toArray = rs) (hne : rs ≠ [])
    (h : allJO (JOP D P f n R ops fuel listed k σ w) rs) : JAP D P f n R ops (fuel + 1) listed.toArray k σ w :=
  fun a ha => wpAny_all hr hne fun i hi => h.mem i hi a ha
theorem JAP.done {fuel : Nat} {listed : List Bool} (hr : Region.ready .any ops listed.toArray = []) (h : J D P (.fn f) n R k σ w) : JAP D P f n R ops fuel listed.toArray k σ w :=
  fun a ha => wpAny_done hr (.inl ⟨rfl, ha.size, ha.defers, h a ha⟩) fuel
theorem JOP.doesP {fn : Func} {fuel : Nat} {listed : List Bool} {l : List Oper} {i : Nat} {listed' : List Bool} {Φ Ψ : Value → World → Prop} (hi : l[i]? = some o) (hl : listed.set i true = listed')
    (hf : P.funcs[f]? = some fn) (hg : GOk n σ l.toArray o.guard) (hd : DoesP P (ev n σ) o w Φ Ψ) (hp : ∀ v w', Ψ v w' → R (.panicked [{ v := v, recovered := false }]) w')
    (h : ∀ v w', Φ v w' → JAP [] P f n R l.toArray fuel listed'.toArray k (updO σ o.dst v) w') : JOP [] P f n R l.toArray fuel listed k σ w i := by
  intro a ha
  have hy : yielded l.toArray a.tmps = yieldE n σ l.toArray := funext (ha.yields _)
  have hi' : (l.toArray)[i]? = some o := by simpa using hi
  unfold wpOp
  simp only [hi', hy, hg.wanted, if_true, List.setIfInBounds_toArray, hl]
  exact .inl (wp_of_doesP (by rw [ha.eval]; exact hd) (fun v w' hΦ => h v w' hΦ _ (ha.put _ _)) fun v w' hΨ => qp_panic hf ha (hp v w' hΨ))
theorem JOP.does {fuel : Nat} {listed : List Bool} {l : List Oper} {i : Nat} {listed' : List Bool} {Φ : Value → World → Prop} (hi : l[i]? = some o) (hl : listed.set i true = listed')
    (hg : GOk n σ l.toArray o.guard) (hd : Does P (ev n σ) o w Φ) (h : ∀ v w', Φ v w' → JAP D P f n R l.toArray fuel listed'.toArray k (updO σ o.dst v) w') :
    JOP D P f n R l.toArray fuel listed k σ w i := by
  intro a ha
  have hy : yielded l.toArray a.tmps = yieldE n σ l.toArray := funext (ha.yields _)
  have hi' : (l.toArray)[i]? = some o := by simpa using hi
  unfold wpOp
  simp only [hi', hy, hg.wanted, if_true, List.setIfInBounds_toArray, hl]
  exact .inl (wp_of_does (by rw [ha.eval]; exact hd) fun v w' hΦ => h v w' hΦ _ (ha.put _ _))
theorem JOP.go {fuel : Nat} {listed : List Bool} {l : List Oper} {i : Nat} {listed' : List Bool} {v : Value} (hi : l[i]? = some o) (hl : listed.set i true = listed')
    (hg : GOk n σ l.toArray o.guard) (hr : Runs P (ev n σ) o w v) (h : JAP D P f n R l.toArray fuel listed'.toArray k (updO σ o.dst v) w) :
    JOP D P f n R l.toArray fuel listed k σ w i :=
  JOP.does (Φ := fun u w' => u = v ∧ w' = w) hi hl hg (Does.of_run hr ⟨rfl, rfl⟩) fun _ _ ⟨hu, hw⟩ => by rw [hu, hw]; exact h
/-! What is deferred. -/
theorem J.region_into {D' : List Deferred} {id : Nat} {dr : Bool} (h : ∀ a, Ag D n σ a → (Code.region id ops dr).wp P (Qk D' P (.fn f) n R k) a w) : J D P (.fn f) n R (.code (.region id ops dr) :: k) σ w := by
  intro a ha
  refine jk_of ?_
  intro b hb hk cs
  obtain ⟨e, a', w', ⟨rfl, _, _, hj⟩, harr⟩ := h a ha b k cs
  obtain ⟨e2, w2, fr, hR, hc, hfn, hl⟩ := jk_to hj b hb hk cs
  exact ⟨e2, w2, fr, hR, Comes.of_steps harr hc, hfn, hl⟩
/-- A function value is made and deferred. -/
theorem J.defer {id : Nat} {o1 o2 : Oper} {v : Value} {d : Deferred} (hg1 : o1.guard = none) (hr1 : Runs P (ev n σ) o1 w v) (hg2 : o2.guard = none) (hn2 : o2.dst = none)
    (hr2 : (execOp (ev n (updO σ o1.dst v)) o2).run P w = .ok (.defer d) w) (h : J (d :: D) P (.fn f) n R k (updO σ o1.dst v) w) : J D P (.fn f) n R (.code (.region id [o1, o2].toArray false) :: k) σ w := by
  refine J.region_into (D' := d :: D) fun a ha => wp_region_lit ?_
  have w1 : ∀ y, Region.wanted o1 y = true := fun y => by simp [Region.wanted, hg1]
  have w2 : ∀ y, Region.wanted o2 y = true := fun y => by simp [Region.wanted, hg2]
  simp only [wpList, w1, w2, if_true]
  refine .inl (wp_of_does (by rw [ha.eval]; exact Does.of_run (Φ := fun u w' => u = v ∧ w' = w) hr1 ⟨rfl, rfl⟩) ?_)
  intro u w2 hu
  obtain ⟨rfl, rfl⟩ := hu
  refine .inl ?_
  have h2 := ha.put o1.dst u
  unfold Oper.wp
  rw [h2.eval, hr2]
  simp only [Oper.upon, hn2, Act.put]
  have hag : Ag (d :: D) n (updO σ o1.dst u) { a.put o1.dst u with defers := d :: (a.put o1.dst u).defers } := ⟨h2.size, h2.at_, by rw [h2.defers]⟩
  exact ⟨rfl, h2.size, hag.defers, h _ hag⟩
theorem J.ret_leaves {fn : Func} (hf : P.funcs[f]? = some fn) (h : ∀ a, Ag D n σ a → Leaves P fn a.tmps R D .returning w) : J D P (.fn f) n R (.code .ret :: k) σ w := by
  intro a ha
  refine jk_of ?_
  intro b hb hk cs
  obtain ⟨e', w'', fr', hR, hs', hfn, hlv⟩ := leaves_steps a.defers .returning w { b.at a (.code .ret :: k) with mode := .returning } cs rfl rfl rfl (by show P.funcs[b.fn]? = some fn; rw [hb]; exact hf) hk (by rw [ha.defers]; exact h a ha)
  exact ⟨e', w'', fr', hR, Comes.of_steps (.one step_ret) hs', hfn.trans hb, hlv⟩
end
section
variable {P : Program} {ρ : Operand → Value} {w w0 : World} {L : List Seg} {d : Option Tmp} {ty : TypeId} {pos : String} {af : Array Edge} {g : Option (Nat × Bool)} {x y : Operand}
theorem EX.callP {f : FuncId} {as : List Operand} {ats : Array TypeId} {l : List Value} {Φ Ψ : Value → World → Prop} (hρ : ρ (.func f) = .func (.func f) #[] #[]) (hf : callable P f = true) (ha : as.map ρ = l) (hc : RetP P f l w Φ Ψ) :
    DoesP P ρ ⟨d, .call { callee := .value (.func f), args := as.toArray, argTypes := ats }, ty, pos, af, g⟩ w Φ Ψ := by
  have h : (execOp ρ ⟨d, .call { callee := .value (.func f), args := as.toArray, argTypes := ats }, ty, pos, af, g⟩).run P w = .ok (.enter f l.toArray) w := run_callq hρ hf ha
  unfold DoesP
  rw [h]
  exact hc
theorem EX.panic {t : TypeId} {v : Value} (hx : ρ x = .iface t v) : DoesP P ρ ⟨d, .panic x, ty, pos, af, g⟩ w (fun _ _ => False) fun u w' => u = .iface t v ∧ w' = w := by
  unfold DoesP
  have h : (execOp ρ ⟨d, .panic x, ty, pos, af, g⟩).run P w = .halt (.panic (.iface t v)) w := by simp [execOp, hx, Instr.panic]
  rw [h]
  exact ⟨rfl, rfl⟩
theorem RX.makeInterface {t : TypeId} {v : Value} (hx : ρ x = v) (ht : P.concrete t = true) : Runs P ρ ⟨d, .makeInterface t x, ty, pos, af, g⟩ w (.iface t v) := by
  unfold Runs
  simp [execOp, hx, run_makeInterface w t v ht]
theorem run_defer {c : Operand} {f : FuncId} {fv cv : Array Value} {ats : Array TypeId} (hv : ρ c = .func (.func f) fv cv) :
    (execOp ρ ⟨d, .defer { callee := .value c, args := #[], argTypes := ats }, ty, pos, af, g⟩).run P w = .ok (.defer { target := .fn (.func f) cv, args := fv }) w := by
  simp [execOp, resolve, hv, Deferred.ofValue]
end
section
variable {P : Program} {f : FuncId} {n : Nat} {R : Ending → World → Prop} {k : List Item} {σ : Env} {w w0 : World} {L : List Seg}
theorem J.retctt {fn : Func} {a t T b o i sz u s : Nat} {l vs : List Value} {x y : Value} (hf : P.funcs[f]? = some fn) (h : fn.results = #[.cell a t, .tmp u, .tmp s]) (H : Hp w0 w L) (hp : ev n σ (.tmp a) = .pointer (some ⟨b, o, none⟩)) (hi : L[i]? = some [(b, cel l T)])
    (hv : readN l o sz = some vs) (ht : aggOf P t = some sz) (hx : ev n σ (.tmp u) = x) (hy : ev n σ (.tmp s) = y) (hR : R (.returned (.tuple #[.agg vs.toArray, x, y])) w) : J [] P (.fn f) n R (.code .ret :: k) σ w :=
  J.ret_of hf (fun a' ha => by
    have h1 := ha.tmp a
    have h2 := ha.tmp u
    have h3 := ha.tmp s
    rw [hp, Array.getD_eq_getD_getElem?] at h1
    rw [hx, Array.getD_eq_getD_getElem?] at h2
    rw [hy, Array.getD_eq_getD_getElem?] at h3
    simp [results, h, h1, h2, h3, asAddr, run_loadAgg H hi hv ht]) hR
end
end Go.Eng
