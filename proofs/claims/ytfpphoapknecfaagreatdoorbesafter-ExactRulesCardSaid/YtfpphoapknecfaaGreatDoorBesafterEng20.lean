/- General rules for stepping through a function: no program stands in them. -/
import Derived.Test.YtfpphoapknecfaaGreatDoorBesafterEng19
import Derived.RangeFuncIn
import Derived.RangeFuncLeaves
import Derived.RangeFuncRecord
import Derived.RangeFuncSeq
import Derived.RangeFuncCalls
import Derived.OrdersIn
import Derived.TacticsIn
namespace Go.Eng
open Go
variable {D : List Deferred}

/-! Regions that call yield, and a round's body: walked behind a fence that lets all in. -/
structure Fair (F : Fence) : Prop where
  fn : ∀ f, F.fn f
  depth : F.depth = none
  lift : ∀ (P : Program) (f : FuncId) (args : Array Value) (w : World) (R : Ending → World → Prop), Calls P f args w R → CallsIn F 0 P f args w R
theorem fair_wide : Fair Fence.wide := ⟨fun _ => trivial, rfl, fun _ _ _ _ _ h => callsIn_wide.2 h⟩
theorem fair_round (l : Nat) : Fair (Fence.wide.inRound l) := ⟨fun _ => trivial, rfl, fun _ _ _ _ _ h => (callsIn_wide.2 h).inRound l⟩
def DoesInR (F : Fence) (P : Program) (Φ : Value → World → Prop) : Result Next → Prop
  | .ok (.value v) w' => Φ v w'
  | .ok .skip w' => Φ undef w'
  | .ok (.enter g args) w' => CallsIn F 0 P g args w' fun e w'' => ∃ v, e = .returned v ∧ Φ v w''
  | .ok (.round l f tmps assign body) w' => RoundIn F 0 P l f tmps assign body w' fun e w'' => ∃ v, e = .returned v ∧ Φ v w''
  | _ => False
def DoesIn (F : Fence) (P : Program) (ρ : Operand → Value) (o : Oper) (w : World) (Φ : Value → World → Prop) : Prop := DoesInR F P Φ ((execOp ρ o).run P w)

section
variable {F : Fence} {P : Program} {f : FuncId} {n : Nat} {R : Ending → World → Prop} {k : List Item} {σ : Env} {w w0 : World} {ops : Array Oper} {o : Oper} {rest : List Oper} {Q : Exit → Act → World → Prop}
theorem wpIn_of_does {a : Act} {Φ : Value → World → Prop} {K : Act → World → Prop} (hF : Fair F) (hp : plainOp o.op = true) (h : DoesIn F P a.eval o w Φ) (hK : ∀ v w', Φ v w' → K (a.put o.dst v) w') : o.wpIn F 0 P a w K Q := by
  refine ⟨fun f _ => hF.fn f, ?_⟩
  rw [Oper.semAt_eq _ _ _ (plainOp.ne hp)]
  unfold DoesIn at h
  revert h
  generalize (execOp a.eval o).run P w = r
  intro h
  cases r with
  | halt x w' => exact h.elim
  | ok x w' =>
    cases x with
    | value v => exact hK _ _ h
    | skip => exact hK _ _ h
    | enter g args => exact ⟨fun hd => (by rw [hF.depth] at hd; cases hd), CallsIn.mono h fun e w'' ⟨v, he, hΦ⟩ => by rw [he]; exact hK _ _ hΦ⟩
    | round l g tmps assign body => exact ⟨fun hd => (by rw [hF.depth] at hd; cases hd), RoundIn.mono h fun e w'' ⟨v, he, hΦ⟩ => by rw [he]; exact hK _ _ hΦ⟩
    | _ => exact h.elim
theorem DoesIn.of_does {ρ : Operand → Value} {Φ : Value → World → Prop} (hF : Fair F) (h : Does P ρ o w Φ) : DoesIn F P ρ o w Φ := by
  unfold Does at h
  unfold DoesIn
  revert h
  generalize (execOp ρ o).run P w = r
  intro h
  cases r with
  | halt x w' => exact h.elim
  | ok x w' =>
    cases x with
    | value v => exact h
    | skip => exact h
    | enter g args => exact hF.lift _ _ _ _ _ h
    | _ => exact h.elim
/-- A region's operations, in a row. -/
def FL (F : Fence) (D : List Deferred) (P : Program) (n : Nat) (Q : Exit → Act → World → Prop) (ops : Array Oper) (l : List Oper) (σ : Env) (w : World) : Prop := ∀ a, Ag D n σ a → wpListIn F 0 P ops Q l a w
/-- In whatever order. -/
def FA (F : Fence) (D : List Deferred) (P : Program) (n : Nat) (Q : Exit → Act → World → Prop) (ops : Array Oper) (fuel : Nat) (listed : Array Bool) (σ : Env) (w : World) : Prop := ∀ a, Ag D n σ a → wpAnyIn F 0 P .any ops Q fuel listed a w
def FO (F : Fence) (D : List Deferred) (P : Program) (n : Nat) (Q : Exit → Act → World → Prop) (ops : Array Oper) (fuel : Nat) (listed : List Bool) (σ : Env) (w : World) (i : Nat) : Prop :=
  ∀ a, Ag D n σ a → wpOpIn F 0 P ops Q i (wpAnyIn F 0 P .any ops Q fuel (listed.toArray.setIfInBounds i true)) a w
theorem FL.doesIn {Φ : Value → World → Prop} (hF : Fair F) (hp : plainOp o.op = true) (hg : GOk n σ ops o.guard) (hd : DoesIn F P (ev n σ) o w Φ) (h : ∀ v w', Φ v w' → FL F D P n Q ops rest (updO σ o.dst v) w') : FL F D P n Q ops (o :: rest) σ w := by
  intro a ha
  have hy : yielded ops a.tmps = yieldE n σ ops := funext (ha.yields ops)
  simp only [wpListIn, hy, hg.wanted, if_true]
  exact wpIn_of_does hF hp (by rw [ha.eval]; exact hd) fun v w' hΦ => h v w' hΦ _ (ha.put _ _)
theorem FL.does {Φ : Value → World → Prop} (hF : Fair F) (hp : plainOp o.op = true) (hg : GOk n σ ops o.guard) (hd : Does P (ev n σ) o w Φ) (h : ∀ v w', Φ v w' → FL F D P n Q ops rest (updO σ o.dst v) w') : FL F D P n Q ops (o :: rest) σ w :=
  FL.doesIn hF hp hg (.of_does hF hd) h
theorem FL.go {v : Value} (hF : Fair F) (hp : plainOp o.op = true) (hg : GOk n σ ops o.guard) (hr : Runs P (ev n σ) o w v) (h : FL F D P n Q ops rest (updO σ o.dst v) w) : FL F D P n Q ops (o :: rest) σ w :=
  FL.does (Φ := fun u w' => u = v ∧ w' = w) hF hp hg (Does.of_run hr ⟨rfl, rfl⟩) fun _ _ ⟨hu, hw⟩ => by rw [hu, hw]; exact h
theorem FL.nil (h : ∀ a, Ag D n σ a → Q .normal a w) : FL F D P n Q ops [] σ w := fun a ha => wpListIn_nil (h a ha)
theorem FA.all {fuel : Nat} {listed : List Bool} (rs : List Nat) (hr : Region.ready .any ops listed.toArray = rs) (hne : rs ≠ []) (h : allJO (FO F D P n Q ops fuel listed σ w) rs) : FA F D P n Q ops (fuel + 1) listed.toArray σ w :=
  fun a ha => wpAnyIn_all hr hne fun i hi => h.mem i hi a ha
theorem FA.done {fuel : Nat} {listed : List Bool} (hr : Region.ready .any ops listed.toArray = []) (h : ∀ a, Ag D n σ a → Q .normal a w) : FA F D P n Q ops fuel listed.toArray σ w :=
  fun a ha => wpAnyIn_done hr (h a ha) fuel
theorem FO.doesIn {fuel : Nat} {listed : List Bool} {l : List Oper} {i : Nat} {listed' : List Bool} {Φ : Value → World → Prop} (hF : Fair F) (hi : l[i]? = some o) (hp : plainOp o.op = true) (hl : listed.set i true = listed') (hg : GOk n σ l.toArray o.guard)
    (hd : DoesIn F P (ev n σ) o w Φ) (h : ∀ v w', Φ v w' → FA F D P n Q l.toArray fuel listed'.toArray (updO σ o.dst v) w') : FO F D P n Q l.toArray fuel listed σ w i := by
  intro a ha
  have hy : yielded l.toArray a.tmps = yieldE n σ l.toArray := funext (ha.yields _)
  have hi' : (l.toArray)[i]? = some o := by simpa using hi
  unfold wpOpIn
  simp only [hi', hy, hg.wanted, if_true, List.setIfInBounds_toArray, hl]
  exact wpIn_of_does hF hp (by rw [ha.eval]; exact hd) fun v w' hΦ => h v w' hΦ _ (ha.put _ _)
theorem FO.does {fuel : Nat} {listed : List Bool} {l : List Oper} {i : Nat} {listed' : List Bool} {Φ : Value → World → Prop} (hF : Fair F) (hi : l[i]? = some o) (hp : plainOp o.op = true) (hl : listed.set i true = listed') (hg : GOk n σ l.toArray o.guard)
    (hd : Does P (ev n σ) o w Φ) (h : ∀ v w', Φ v w' → FA F D P n Q l.toArray fuel listed'.toArray (updO σ o.dst v) w') : FO F D P n Q l.toArray fuel listed σ w i :=
  FO.doesIn hF hi hp hl hg (.of_does hF hd) h
theorem FO.go {fuel : Nat} {listed : List Bool} {l : List Oper} {i : Nat} {listed' : List Bool} {v : Value} (hF : Fair F) (hi : l[i]? = some o) (hp : plainOp o.op = true) (hl : listed.set i true = listed') (hg : GOk n σ l.toArray o.guard)
    (hr : Runs P (ev n σ) o w v) (h : FA F D P n Q l.toArray fuel listed'.toArray (updO σ o.dst v) w) : FO F D P n Q l.toArray fuel listed σ w i :=
  FO.does (Φ := fun u w' => u = v ∧ w' = w) hF hi hp hl hg (Does.of_run hr ⟨rfl, rfl⟩) fun _ _ ⟨hu, hw⟩ => by rw [hu, hw]; exact h
/-- A region that calls yield, in a function's own frame. -/
theorem J.anyY {id : Nat} {l : List Oper} (hm : P.follows .mixedOrders = true) (h : ∀ w', Same w w' → FA Fence.wide D P n (Qk D P (.fn f) n R k) l.toArray l.length (falses l.length).toArray σ w') : J D P (.fn f) n R (.code (.region id l.toArray true) :: k) σ w :=
  J.region_of fun a ha => (wpIn_wide (n := 0)).1 (wpIn_region_any hm (by
    have := h { w with drawn := w.drawn + 1 } ⟨rfl, rfl, rfl, rfl⟩ a ha
    rw [falses_eq] at this
    simpa using this))
theorem FA.doneJ {fuel : Nat} {listed : List Bool} (hr : Region.ready .any ops listed.toArray = []) (h : J D P (.fn f) n R k σ w) : FA F D P n (Qk D P (.fn f) n R k) ops fuel listed.toArray σ w :=
  FA.done hr fun a ha => ⟨rfl, ha.size, ha.defers, h a ha⟩
/-! The code of a round's body. -/
def FC (F : Fence) (D : List Deferred) (P : Program) (n : Nat) (Q : Exit → Act → World → Prop) (c : Code) (σ : Env) (w : World) : Prop := ∀ a, Ag D n σ a → c.wpIn F 0 P Q a w
theorem FC.region {id : Nat} {l : List Oper} (h : FL F D P n Q l.toArray l σ w) : FC F D P n Q (.region id l.toArray false) σ w := fun a ha => wpIn_region_lit (h a ha)
theorem FC.any {id : Nat} {l : List Oper} (hm : P.follows .mixedOrders = true) (h : ∀ w', Same w w' → FA F D P n Q l.toArray l.length (falses l.length).toArray σ w') : FC F D P n Q (.region id l.toArray true) σ w :=
  fun a ha => wpIn_region_any hm (by
    have := h { w with drawn := w.drawn + 1 } ⟨rfl, rfl, rfl, rfl⟩ a ha
    rw [falses_eq] at this
    simpa using this)
theorem FC.seq {x y : Code} (h : FC F D P n (Exit.then (y.wpIn F 0 P Q) Q) x σ w) : FC F D P n Q (.seq x y) σ w := fun a ha => wpIn_seq (h a ha)
theorem FC.block {id : Nat} {c : Code} (h : FC F D P n (Exit.inBlock id Q) c σ w) : FC F D P n Q (.block id c) σ w := fun a ha => wpIn_block (h a ha)
theorem FC.cond_f {c : Operand} {x y : Code} (hc : ev n σ c = .bool false) (h : FC F D P n Q y σ w) : FC F D P n Q (.cond c x y) σ w := fun a ha => wpIn_cond_false (by rw [ha.eval]; exact hc) (h a ha)
theorem FC.code {c c' : Code} (hc : c = c') (h : FC F D P n Q c σ w) : FC F D P n Q c' σ w := hc ▸ h
theorem FC.skip (h : ∀ a, Ag D n σ a → Q .normal a w) : FC F D P n Q .skip σ w := fun a ha => wpIn_skip (h a ha)
/-! The call of yield. -/
theorem EX.yield {ρ : Operand → Value} {d : Option Tmp} {ty : TypeId} {pos : String} {af : Array Edge} {g : Option (Nat × Bool)} {c : Operand} {as : List Operand} {ats : Array TypeId} {args : List Value} {l : Nat} {Φ : Value → World → Prop}
    (hv : ρ c = .func (.yield l) #[] #[]) (ha : as.map ρ = args) (h : YieldAt F 0 P l args.toArray w fun e w' => ∃ v, e = .returned v ∧ Φ v w') :
    DoesIn F P ρ ⟨d, .call { callee := .value c, args := as.toArray, argTypes := ats }, ty, pos, af, g⟩ w Φ := by
  obtain ⟨fn, tmps, assign, body, hy, hR⟩ := h
  have hrun : (execOp ρ ⟨d, .call { callee := .value c, args := as.toArray, argTypes := ats }, ty, pos, af, g⟩).run P w = .ok (.round l fn tmps assign body) w := by
    simp [execOp, resolve, Sem.run_bind, List.map_toArray, ha, hv, Deferred.ofValue, invoke, hy]
  unfold DoesIn
  rw [hrun]
  exact hR
theorem Hp.putObj {L : List Seg} {i b : Nat} {o o' : Obj} (H : Hp w0 w L) (hi : L[i]? = some [(b, o)]) : Hp w0 (w.putObj b o') (L.set i [(b, o')]) := by
  have hb := H.get1 hi
  have hlt := (Array.getElem?_eq_some_iff.1 hb).1
  exact H.set hi (heap' := (w.putObj b o').heap) (by simp [World.putObj]) (World.putObj_heap_same hlt) (fun c hc => World.putObj_heap_other hc)
/-! The statement itself; no round leaves it early. -/
def loopObj (st : LoopState) (f : FuncId) (tmps : Array Value) (ps : Array Tmp) (assign body : Code) (r : Nat) : Obj := .loop { state := st, pending := none, fn := f, tmps := tmps, params := ps, assign := assign, body := body, defers := r }
theorem J.rangeFunc {g : Operand} {ps : Array Tmp} {assign body : Code} {gf : FuncId} {fv cv args : List Value} {L : List Seg} (H : Hp w0 w L)
    (hg : ev n σ g = .func (.func gf) fv.toArray cv.toArray) (hc : callable P gf = true)
    (hargs : fv ++ [Value.func (.yield (w.heap.size + 1)) #[] #[]] ++ cv = args)
    (h : ∀ r l a w1, l = w.heap.size + 1 → Ag [] n σ a → Hp w0 w1 ([(l, loopObj .ready f a.tmps ps assign body r)] :: [(r, Obj.deferred (some []))] :: L) →
      Ret P gf args w1 fun _ w3 => ∃ (i : Nat) (L3 : List Seg), Hp w0 w3 L3 ∧ L3[i]? = some [(l, loopObj .ready f a.tmps ps assign body r)] ∧
        ∀ w4, Hp w0 w4 (L3.set i [(l, loopObj .exhausted f a.tmps ps assign body r)]) → J [{ target := .collected r, args := #[] }] P (.fn f) n R k σ w4) :
    J [] P (.fn f) n R (.code (.rangeFunc g ps assign body) :: k) σ w := by
  intro a ha
  refine jk_of ?_
  intro b hb hk cs
  have H1 := (H.alloc (.deferred (some []))).alloc (loopObj .ready f a.tmps ps assign body w.heap.size)
  have hsz : (w.alloc (.deferred (some []))).heap.size = w.heap.size + 1 := by simp
  rw [hsz] at H1
  have hcall := h w.heap.size (w.heap.size + 1) a _ rfl ha H1
  have he := run_enterLoop_outer (P := P) (w := w) ({ b with roundOf := none } : Frame).fn a.tmps ps assign body
  have hfn : ({ b with roundOf := none } : Frame).fn = f := hb
  rw [hfn] at he
  have hres : (resolve a.eval (rangeCall g (w.heap.size + 1)) 0).run P ((w.alloc (.deferred (some []))).alloc (loopObj .ready f a.tmps ps assign body w.heap.size)) =
      .ok { target := .fn (.func gf) cv.toArray, args := fv.toArray ++ #[Value.func (.yield (w.heap.size + 1)) #[] #[]] } ((w.alloc (.deferred (some []))).alloc (loopObj .ready f a.tmps ps assign body w.heap.size)) := by
    have hcst : ev n σ (.const (.func (.yield (w.heap.size + 1)) #[] #[])) = .func (.yield (w.heap.size + 1)) #[] #[] := rfl
    rw [ha.eval]
    simp [resolve, Sem.run_bind, hg, Deferred.ofValue, hcst]
  have hinv : (invoke (.fn (.func gf) cv.toArray) (fv.toArray ++ #[Value.func (.yield (w.heap.size + 1)) #[] #[]])).run P ((w.alloc (.deferred (some []))).alloc (loopObj .ready f a.tmps ps assign body w.heap.size)) =
      .ok (.enter gf args.toArray) ((w.alloc (.deferred (some []))).alloc (loopObj .ready f a.tmps ps assign body w.heap.size)) := by
    subst hargs
    simp [invoke, callFunc_run hc]
  have hadef : ({ a with defers := [{ target := .collected w.heap.size, args := #[] }] ++ a.defers } : Act).defers = [{ target := .collected w.heap.size, args := #[] }] := by rw [ha.defers]; rfl
  obtain ⟨e, w3, fr, ⟨v, rfl, i, L3, H3, hi, hj⟩, hcomes, hfn3, hlv⟩ := hcall (({ b with roundOf := none } : Frame).atR { a with defers := [{ target := .collected w.heap.size, args := #[] }] ++ a.defers } (.inRangeFunc (w.heap.size + 1) :: k) :: cs)
  have s1 := stepR_rangeFunc (P := P) (b := { b with roundOf := none }) (a := a) (k := k) (cs := cs) (w := w) (by rw [hfn]; exact he) hres hinv
  have s2 := step_leave_returned (c := ({ b with roundOf := none } : Frame).atR { a with defers := [{ target := .collected w.heap.size, args := #[] }] ++ a.defers } (.inRangeFunc (w.heap.size + 1) :: k)) (cs := cs) hlv
  rw [finish_atR_inRangeFunc] at s2
  have hend := run_endLoop (P := P) (H3.get1 hi) (show LoopState.ready ≠ LoopState.busy from by decide)
  have s3 := stepR_endRangeFunc (P := P) (b := { b with roundOf := none }) (a := { a with defers := [{ target := .collected w.heap.size, args := #[] }] ++ a.defers }) (k := k) (cs := cs) hend
  obtain ⟨e2, w5, fr2, hR, hc2, hfn2, hl2⟩ := jk_to (hj _ (H3.putObj hi) { a with defers := [{ target := .collected w.heap.size, args := #[] }] ++ a.defers } ⟨ha.size, ha.at_, hadef⟩) b hb hk cs
  exact ⟨e2, w5, fr2, hR, Comes.of_steps (Steps.head s1 (Steps.trans hcomes (Steps.head s2 (Steps.head s3 (Steps.refl _ _))))) hc2, hfn2, hl2⟩
/-- A round, out of the walk of its body. -/
theorem yield_round {l r : Nat} {t : Tmp} {v : Value} {a : Act} {assign body : Code} {L : List Seg} {i : Nat} (H : Hp w0 w L) (hi : L[i]? = some [(l, loopObj .ready f a.tmps #[t] assign body r)]) (ha : Ag [] n σ a)
    (h : FC (Fence.wide.inRound l) [] P n (Exit.then (fun a₁ w₁ => ∃ w₂, (Instr.beginRound l).run P w₁ = .ok () w₂ ∧ body.wpIn (Fence.wide.inRound l) 0 P (roundPost P l R) a₁ w₂) (fun _ _ _ => False)) assign (updO σ (some t) v) w) :
    YieldAt Fence.wide 0 P l #[v] w R := by
  refine ⟨_, _, _, _, run_yield (H.get1 hi) rfl, ?_⟩
  have hp := ha.put (some t) v
  have e : a.put (some t) v = { tmps := a.tmps.setIfInBounds t v, defers := [] } := by simp [Act.put, ha.defers]
  have h2 := h _ hp
  rw [e] at h2
  exact roundIn_of_wpIn trivial (by simpa using h2)
/-- Returning past a mark. -/
theorem J.ret_mark {fn : Func} {r i : Nat} {L : List Seg} (hf : P.funcs[f]? = some fn) (H : Hp w0 w L) (hi : L[i]? = some [(r, Obj.deferred (some []))])
    (h : ∀ w' a, Ag [{ target := .collected r, args := #[] }] n σ a → Hp w0 w' (L.set i [(r, Obj.deferred none)]) → ∃ v, (results fn a.tmps).run P w' = .ok v w' ∧ R (.returned v) w') :
    J [{ target := .collected r, args := #[] }] P (.fn f) n R (.code .ret :: k) σ w := by
  intro a ha
  refine jk_of ?_
  intro b hb hk cs
  have htake := run_takeDeferred (P := P) (H.get1 hi)
  obtain ⟨v, hres, hR⟩ := h _ a ha (H.putObj hi)
  have s2 := step_collected (P := P) (fr := { b.at a (.code .ret :: k) with mode := .returning }) (cs := cs) (w := w) (by simp) (show _ = _ :: [] from ha.defers) rfl htake
  refine ⟨.returned v, _, { b.at a (.code .ret :: k) with mode := .returning, defers := [] }, hR, ?_, hb, ?_⟩
  · exact Steps.head step_ret (Steps.head s2 (Steps.refl _ _))
  · exact ⟨rfl, rfl, hk, fn, by show P.funcs[b.fn]? = _; rw [hb]; exact hf, hres⟩
end
end Go.Eng
