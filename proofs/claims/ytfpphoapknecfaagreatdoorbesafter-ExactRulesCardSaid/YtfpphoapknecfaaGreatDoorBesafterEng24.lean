/- General rules for stepping through a function: no program stands in them. -/
import Derived.Test.YtfpphoapknecfaaGreatDoorBesafterEng23
namespace Go.Eng
open Go
variable {D : List Deferred}
section
variable {F : Fence} {P : Program} {f : FuncId} {n : Nat} {R : Ending → World → Prop} {k : List Item} {σ : Env} {w w0 : World} {Q : Exit → Act → World → Prop}
theorem FC.cond_d {c : Operand} {x y : Code} {p : Prop} [Decidable p] (hc : ev n σ c = .bool (decide p)) (ht : p → FC F D P n Q x σ w) (hf : ¬ p → FC F D P n Q y σ w) : FC F D P n Q (.cond c x y) σ w := by
  by_cases h : p
  · rw [decide_eq_true h] at hc
    exact fun a ha => wpIn_cond_true (by rw [ha.eval]; exact hc) (ht h a ha)
  · rw [decide_eq_false h] at hc
    exact fun a ha => wpIn_cond_false (by rw [ha.eval]; exact hc) (hf h a ha)
theorem FC.exit {id : Nat} (h : ∀ a, Ag D n σ a → Q (.exit id) a w) : FC F D P n Q (.exit id) σ w := fun a ha => wpIn_exit (h a ha)
theorem FL.no {ops : Array Oper} {o : Oper} {rest : List Oper} (hF : Fair F) (hg : GNo n σ ops o.guard) (h : FL F D P n Q ops rest (updO σ o.dst undef) w) : FL F D P n Q ops (o :: rest) σ w := by
  intro a ha
  have hy : yielded ops a.tmps = yieldE n σ ops := funext (ha.yields ops)
  simp only [wpListIn, hy, hg.unwanted, if_false, Bool.false_eq_true]
  exact ⟨fun f _ => hF.fn f, h _ (ha.put _ _)⟩
/-! A loop, round by round. -/
section
variable {f : Fr}
theorem J.unroll {c : Code} (h : J D P f n R (.code c :: .inLoop c :: k) σ w) : J D P f n R (.code (.loop c) :: k) σ w :=
  fun a ha => Jk.of_steps (fun _ _ => .one stepR_loop) (h a ha)
theorem J.again {c : Code} (h : J D P f n R (.code c :: .inLoop c :: k) σ w) : J D P f n R (.inLoop c :: k) σ w :=
  fun a ha => Jk.of_steps (fun _ _ => .one stepR_inLoop) (h a ha)
end
/-! A range over a function that a round may leave by the end of the block around it. -/
def loopObj2 (st : LoopState) (pd : Option Code) (f : FuncId) (tmps : Array Value) (ps : Array Tmp) (assign body : Code) (r : Nat) : Obj := .loop { state := st, pending := pd, fn := f, tmps := tmps, params := ps, assign := assign, body := body, defers := r }
theorem J.rangeFuncB {id : Nat} {g : Operand} {ps : Array Tmp} {assign body : Code} {gf : FuncId} {fv cv args : List Value} {L : List Seg} (H : Hp w0 w L)
    (hg : ev n σ g = .func (.func gf) fv.toArray cv.toArray) (hc : callable P gf = true)
    (hargs : fv ++ [Value.func (.yield (w.heap.size + 1)) #[] #[]] ++ cv = args)
    (h : ∀ r l a w1, l = w.heap.size + 1 → Ag D n σ a → Hp w0 w1 ([(l, loopObj2 .ready none f a.tmps ps assign body r)] :: [(r, Obj.deferred (some []))] :: L) →
      Ret P gf args w1 fun _ w3 => ∃ (i : Nat) (L3 : List Seg) (st : LoopState) (pd : Option Code), (pd = none ∨ pd = some (.exit id)) ∧ st ≠ .busy ∧ Hp w0 w3 L3 ∧ L3[i]? = some [(l, loopObj2 st pd f a.tmps ps assign body r)] ∧
        ∀ w4, Hp w0 w4 (L3.set i [(l, loopObj2 .exhausted pd f a.tmps ps assign body r)]) → J ({ target := .collected r, args := #[] } :: D) P (.fn f) n R k σ w4) :
    J D P (.fn f) n R (.code (.rangeFunc g ps assign body) :: .inBlock id :: k) σ w := by
  intro a ha
  refine jk_of ?_
  intro b hb hk cs
  have H1 := (H.alloc (.deferred (some []))).alloc (loopObj2 .ready none f a.tmps ps assign body w.heap.size)
  have hsz : (w.alloc (.deferred (some []))).heap.size = w.heap.size + 1 := by simp
  rw [hsz] at H1
  have hcall := h w.heap.size (w.heap.size + 1) a _ rfl ha H1
  have he := run_enterLoop_outer (P := P) (w := w) ({ b with roundOf := none } : Frame).fn a.tmps ps assign body
  have hfn : ({ b with roundOf := none } : Frame).fn = f := hb
  rw [hfn] at he
  have hres : (resolve a.eval (rangeCall g (w.heap.size + 1)) 0).run P ((w.alloc (.deferred (some []))).alloc (loopObj2 .ready none f a.tmps ps assign body w.heap.size)) =
      .ok { target := .fn (.func gf) cv.toArray, args := fv.toArray ++ #[Value.func (.yield (w.heap.size + 1)) #[] #[]] } ((w.alloc (.deferred (some []))).alloc (loopObj2 .ready none f a.tmps ps assign body w.heap.size)) := by
    have hcst : ev n σ (.const (.func (.yield (w.heap.size + 1)) #[] #[])) = .func (.yield (w.heap.size + 1)) #[] #[] := rfl
    rw [ha.eval]
    simp [resolve, Sem.run_bind, hg, Deferred.ofValue, hcst]
  have hinv : (invoke (.fn (.func gf) cv.toArray) (fv.toArray ++ #[Value.func (.yield (w.heap.size + 1)) #[] #[]])).run P ((w.alloc (.deferred (some []))).alloc (loopObj2 .ready none f a.tmps ps assign body w.heap.size)) =
      .ok (.enter gf args.toArray) ((w.alloc (.deferred (some []))).alloc (loopObj2 .ready none f a.tmps ps assign body w.heap.size)) := by
    subst hargs
    simp [invoke, callFunc_run hc]
  have hadef : ({ a with defers := [{ target := .collected w.heap.size, args := #[] }] ++ a.defers } : Act).defers = { target := .collected w.heap.size, args := #[] } :: D := by rw [ha.defers]; rfl
  obtain ⟨e, w3, fr, ⟨v, rfl, i, L3, st, pd, hpd, hst, H3, hi, hj⟩, hcomes, hfn3, hlv⟩ := hcall (({ b with roundOf := none } : Frame).atR { a with defers := [{ target := .collected w.heap.size, args := #[] }] ++ a.defers } (.inRangeFunc (w.heap.size + 1) :: .inBlock id :: k) :: cs)
  have s1 := stepR_rangeFunc (P := P) (b := { b with roundOf := none }) (a := a) (k := .inBlock id :: k) (cs := cs) (w := w) (by rw [hfn]; exact he) hres hinv
  have s2 := step_leave_returned (c := ({ b with roundOf := none } : Frame).atR { a with defers := [{ target := .collected w.heap.size, args := #[] }] ++ a.defers } (.inRangeFunc (w.heap.size + 1) :: .inBlock id :: k)) (cs := cs) hlv
  rw [finish_atR_inRangeFunc] at s2
  have hend := run_endLoop (P := P) (H3.get1 hi) hst
  have s3 := stepR_endRangeFunc (P := P) (b := { b with roundOf := none }) (a := { a with defers := [{ target := .collected w.heap.size, args := #[] }] ++ a.defers }) (k := .inBlock id :: k) (cs := cs) hend
  have key : J ({ target := .collected w.heap.size, args := #[] } :: D) P (.fn f) n R ((pd.map Item.code).toList ++ .inBlock id :: k) σ (w3.putObj (w.heap.size + 1) (loopObj2 .exhausted pd f a.tmps ps assign body w.heap.size)) := by
    have hJ := hj _ (H3.putObj hi)
    rcases hpd with rfl | rfl
    · exact J.inBlock hJ
    · exact J.exit (by simp [exitTo]) hJ
  obtain ⟨e2, w5, fr2, hR, hc2, hfn2, hl2⟩ := jk_to (key { a with defers := [{ target := .collected w.heap.size, args := #[] }] ++ a.defers } ⟨ha.size, ha.at_, hadef⟩) b hb hk cs
  exact ⟨e2, w5, fr2, hR, Comes.of_steps (Steps.head s1 (Steps.trans hcomes (Steps.head s2 (Steps.head s3 (Steps.refl _ _))))) hc2, hfn2, hl2⟩
/-- A round, out of the walk of its body. -/
theorem yield_round2 {l r : Nat} {t : Tmp} {v : Value} {a : Act} {assign body : Code} {L : List Seg} {i : Nat} {D0 : List Deferred} (H : Hp w0 w L) (hi : L[i]? = some [(l, loopObj2 .ready none f a.tmps #[t] assign body r)]) (ha : Ag D0 n σ a)
    (h : FC (Fence.wide.inRound l) [] P n (Exit.then (fun a₁ w₁ => ∃ w₂, (Instr.beginRound l).run P w₁ = .ok () w₂ ∧ body.wpIn (Fence.wide.inRound l) 0 P (roundPost P l R) a₁ w₂) (fun _ _ _ => False)) assign (updO σ (some t) v) w) :
    YieldAt Fence.wide 0 P l #[v] w R := by
  refine ⟨_, _, _, _, run_yield (H.get1 hi) rfl, ?_⟩
  have ha' : Ag [] n σ { a with defers := [] } := ⟨ha.size, ha.at_, rfl⟩
  have hp := ha'.put (some t) v
  have e : ({ a with defers := [] } : Act).put (some t) v = { tmps := a.tmps.setIfInBounds t v, defers := [] } := by simp [Act.put]
  have h2 := h _ hp
  rw [e] at h2
  exact roundIn_of_wpIn trivial (by simpa using h2)
/-- Returning past two marks. -/
theorem J.ret_mark2 {fn : Func} {r r2 i i2 : Nat} {L : List Seg} (hf : P.funcs[f]? = some fn) (H : Hp w0 w L) (hi : L[i]? = some [(r, Obj.deferred (some []))]) (hi2 : (L.set i [(r, Obj.deferred none)])[i2]? = some [(r2, Obj.deferred (some []))])
    (h : ∀ w' a, Ag [{ target := .collected r, args := #[] }, { target := .collected r2, args := #[] }] n σ a → Hp w0 w' ((L.set i [(r, Obj.deferred none)]).set i2 [(r2, Obj.deferred none)]) → ∃ v, (results fn a.tmps).run P w' = .ok v w' ∧ R (.returned v) w') :
    J [{ target := .collected r, args := #[] }, { target := .collected r2, args := #[] }] P (.fn f) n R (.code .ret :: k) σ w := by
  intro a ha
  refine jk_of ?_
  intro b hb hk cs
  have htake := run_takeDeferred (P := P) (H.get1 hi)
  have H2 := H.putObj (o' := Obj.deferred none) hi
  have htake2 := run_takeDeferred (P := P) (H2.get1 hi2)
  obtain ⟨v, hres, hR⟩ := h _ a ha (H2.putObj hi2)
  have s2 := step_collected (P := P) (fr := { b.at a (.code .ret :: k) with mode := .returning }) (cs := cs) (w := w) (by simp) (show _ = _ :: _ from ha.defers) rfl htake
  have s3 := step_collected (P := P) (fr := { b.at a (.code .ret :: k) with mode := .returning, defers := [{ target := .collected r2, args := #[] }] }) (cs := cs) (by simp) (show _ = _ :: [] from rfl) rfl htake2
  refine ⟨.returned v, _, { b.at a (.code .ret :: k) with mode := .returning, defers := [] }, hR, ?_, hb, ?_⟩
  · exact Steps.head step_ret (Steps.head s2 (Steps.head s3 (Steps.refl _ _)))
  · exact ⟨rfl, rfl, hk, fn, by show P.funcs[b.fn]? = _; rw [hb]; exact hf, hres⟩
end
end Go.Eng
