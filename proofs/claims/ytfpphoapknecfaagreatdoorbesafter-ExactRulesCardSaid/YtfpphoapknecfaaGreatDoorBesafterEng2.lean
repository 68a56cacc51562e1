/- General rules for stepping through a function: no program stands in them. -/
import Derived.Test.YtfpphoapknecfaaGreatDoorBesafterEng1
import Derived.Orders
import Derived.Deep.Quiet
namespace Go.Eng
open Go
variable {D : List Deferred}

/-- May the operation run? (Its guard holds.) -/
def GOk (n : Nat) (σ : Env) (ops : Array Oper) : Option (Nat × Bool) → Prop
  | none => True
  | some g => ∃ b, yieldE n σ ops g.1 = some b ∧ b = g.2
def GNo (n : Nat) (σ : Env) (ops : Array Oper) : Option (Nat × Bool) → Prop
  | none => False
  | some g => ∃ r, yieldE n σ ops g.1 = r ∧ r ≠ some g.2
theorem gno {b c : Bool} (h : b = !c) : some b ≠ some c := by
  subst h; cases c <;> decide
theorem GOk.wanted {n : Nat} {σ : Env} {ops : Array Oper} {o : Oper} (h : GOk n σ ops o.guard) : Region.wanted o (yieldE n σ ops) = true := by
  unfold Region.wanted
  cases hg : o.guard with
  | none => rfl
  | some g =>
    rw [hg] at h
    obtain ⟨b, hy, hb⟩ := h
    simp [hy, hb]
theorem GNo.unwanted {n : Nat} {σ : Env} {ops : Array Oper} {o : Oper} (h : GNo n σ ops o.guard) : Region.wanted o (yieldE n σ ops) = false := by
  unfold Region.wanted
  cases hg : o.guard with
  | none => rw [hg] at h; exact h.elim
  | some g =>
    rw [hg] at h
    obtain ⟨r, hy, hb⟩ := h
    obtain ⟨j, c⟩ := g
    simp only [hy]
    exact beq_eq_false_iff_ne.2 hb

/-- What an operation comes to: a value, or a call that comes back with one. -/
def DoesR (P : Program) (Φ : Value → World → Prop) : Result Next → Prop
  | .ok (.value v) w' => Φ v w'
  | .ok .skip w' => Φ undef w'
  | .ok (.enter g args) w' => Calls P g args w' fun e w'' => ∃ v, e = .returned v ∧ Φ v w''
  | _ => False
def Does (P : Program) (ρ : Operand → Value) (o : Oper) (w : World) (Φ : Value → World → Prop) : Prop := DoesR P Φ ((execOp ρ o).run P w)
/-- Its run: one value, the world as it was. -/
def Runs (P : Program) (ρ : Operand → Value) (o : Oper) (w : World) (v : Value) : Prop := (execOp ρ o).run P w = .ok (.value v) w

section
variable {P : Program} {f : Fr} {n : Nat} {R : Ending → World → Prop} {k : List Item} {σ : Env} {w : World} {ops : Array Oper} {o : Oper} {rest : List Oper}

theorem Does.of_run {ρ : Operand → Value} {v : Value} {w' : World} {Φ : Value → World → Prop} (h : (execOp ρ o).run P w = .ok (.value v) w') (hΦ : Φ v w') : Does P ρ o w Φ := by
  unfold Does; rw [h]; exact hΦ
theorem Does.of_skip {ρ : Operand → Value} {w' : World} {Φ : Value → World → Prop} (h : (execOp ρ o).run P w = .ok .skip w') (hΦ : Φ undef w') : Does P ρ o w Φ := by
  unfold Does; rw [h]; exact hΦ
theorem Does.of_enter {ρ : Operand → Value} {w' : World} {g : FuncId} {l : List Value} {Φ : Value → World → Prop} (h : (execOp ρ o).run P w = .ok (.enter g l.toArray) w') (hΦ : Ret P g l w' Φ) : Does P ρ o w Φ := by
  unfold Does; rw [h]; exact hΦ

theorem wp_of_does {a : Act} {Φ : Value → World → Prop} {K : Act → World → Prop} {Q : Exit → Act → World → Prop} (h : Does P a.eval o w Φ) (hK : ∀ v w', Φ v w' → K (a.put o.dst v) w') :
    o.wp P a w K Q := by
  unfold Does at h
  unfold Oper.wp
  revert h
  generalize (execOp a.eval o).run P w = r
  intro h
  cases r with
  | halt x w' => exact h.elim
  | ok x w' =>
    cases x with
    | value v => exact hK _ _ h
    | skip => exact hK _ _ h
    | enter g args => exact Calls.mono h fun e w'' ⟨v, he, hΦ⟩ => by rw [he]; exact hK _ _ hΦ
    | _ => exact h.elim

theorem JL.does {Φ : Value → World → Prop} (hg : GOk n σ ops o.guard) (hd : Does P (ev n σ) o w Φ)
    (h : ∀ v w', Φ v w' → JL D P f n R ops rest k (updO σ o.dst v) w') : JL D P f n R ops (o :: rest) k σ w := by
  intro a ha
  have hy : yielded ops a.tmps = yieldE n σ ops := funext (ha.yields ops)
  simp only [wpList, hy, hg.wanted, if_true]
  refine .inl (wp_of_does (by rw [ha.eval]; exact hd) fun v w' hΦ => h v w' hΦ _ (ha.put _ _))
theorem JL.go {v : Value} (hg : GOk n σ ops o.guard) (hr : Runs P (ev n σ) o w v) (h : JL D P f n R ops rest k (updO σ o.dst v) w) : JL D P f n R ops (o :: rest) k σ w :=
  JL.does (Φ := fun u w' => u = v ∧ w' = w) hg (Does.of_run hr ⟨rfl, rfl⟩) fun _ _ ⟨hu, hw⟩ => by rw [hu, hw]; exact h
theorem JL.no (hg : GNo n σ ops o.guard) (h : JL D P f n R ops rest k (updO σ o.dst undef) w) : JL D P f n R ops (o :: rest) k σ w := by
  intro a ha
  have hy : yielded ops a.tmps = yieldE n σ ops := funext (ha.yields ops)
  simp only [wpList, hy, hg.unwanted, if_false, Bool.false_eq_true]
  exact h _ (ha.put _ _)

/-- The class of worlds: the same memory. -/
structure Same (w w' : World) : Prop where
  heap : w'.heap = w.heap
  os : w'.os = w.os
  tape : w'.tape = w.tape
  output : w'.output = w.output
theorem Same.refl (w : World) : Same w w := ⟨rfl, rfl, rfl, rfl⟩

/-- A region that draws its order: any order, from what is listed on. -/
def JA (D : List Deferred) (P : Program) (f : Fr) (n : Nat) (R : Ending → World → Prop) (ops : Array Oper) (fuel : Nat) (listed : Array Bool) (k : List Item) (σ : Env) (w : World) : Prop :=
  ∀ a, Ag D n σ a → wpAny P .any ops (Qk D P f n R k) fuel listed a w
def falses : Nat → List Bool
  | 0 => []
  | m + 1 => false :: falses m
theorem falses_eq (m : Nat) : (falses m).toArray = Array.replicate m false := by
  have : falses m = List.replicate m false := by
    induction m with
    | zero => rfl
    | succ m ih => simp [falses, ih, List.replicate_succ]
  rw [this]; simp
theorem J.any {id : Nat} {l : List Oper} (hm : P.follows .mixedOrders = true)
    (h : ∀ w', Same w w' → JA D P f n R l.toArray l.length (falses l.length).toArray k σ w') (hp : f.plain l = true := by exact rfl) : J D P f n R (.code (.region id l.toArray true) :: k) σ w :=
  J.anyof hm (fun a ha => by
    have := h { w with drawn := w.drawn + 1 } ⟨rfl, rfl, rfl, rfl⟩ a ha
    rw [falses_eq] at this
    simpa using this) hp
/-- One operation that yields its value in every world may be taken first. -/
theorem JA.take {fuel : Nat} {listed : List Bool} {l : List Oper} {v : Value} (i : Nat) {listed' : List Bool} (hi : l[i]? = some o)
    (hs : Region.noSelect l.toArray = true) (hf : Region.free .any l.toArray listed.toArray i = true) (hr : (Region.ready .any l.toArray listed.toArray).contains i = true)
    (hl : listed.set i true = listed') (hg : GOk n σ l.toArray o.guard) (hv : ∀ w, Runs P (ev n σ) o w v)
    (h : JA D P f n R l.toArray fuel listed'.toArray k (updO σ o.dst v) w) : JA D P f n R l.toArray (fuel + 1) listed.toArray k σ w := by
  intro a ha
  have hy : yielded l.toArray a.tmps = yieldE n σ l.toArray := funext (ha.yields _)
  refine wpAny_take (by simpa using hi) hs hf hr (fun c a w hq => by obtain ⟨he, _⟩ := hq; cases he) (v := v) ?_ ?_
  · exact .inl ⟨by rw [hy]; exact hg.wanted, fun w => by rw [ha.eval]; exact hv w⟩
  · rw [List.setIfInBounds_toArray, hl]
    exact h _ (ha.put _ _)
theorem JA.takeno {fuel : Nat} {listed : List Bool} {l : List Oper} (i : Nat) {listed' : List Bool} (hi : l[i]? = some o)
    (hs : Region.noSelect l.toArray = true) (hf : Region.free .any l.toArray listed.toArray i = true) (hr : (Region.ready .any l.toArray listed.toArray).contains i = true)
    (hl : listed.set i true = listed') (hg : GNo n σ l.toArray o.guard)
    (h : JA D P f n R l.toArray fuel listed'.toArray k (updO σ o.dst undef) w) : JA D P f n R l.toArray (fuel + 1) listed.toArray k σ w := by
  intro a ha
  have hy : yielded l.toArray a.tmps = yieldE n σ l.toArray := funext (ha.yields _)
  refine wpAny_take (by simpa using hi) hs hf hr (fun c a w hq => by obtain ⟨he, _⟩ := hq; cases he) (v := undef) ?_ ?_
  · exact .inr ⟨by rw [hy]; exact hg.unwanted, rfl⟩
  · rw [List.setIfInBounds_toArray, hl]
    exact h _ (ha.put _ _)
/-- One operation, where it comes up. -/
def JO (D : List Deferred) (P : Program) (f : Fr) (n : Nat) (R : Ending → World → Prop) (ops : Array Oper) (fuel : Nat) (listed : List Bool) (k : List Item) (σ : Env) (w : World) (i : Nat) : Prop :=
  ∀ a, Ag D n σ a → wpOp P ops (Qk D P f n R k) i (wpAny P .any ops (Qk D P f n R k) fuel (listed.toArray.setIfInBounds i true)) a w
def allJO (p : Nat → Prop) : List Nat → Prop
  | [] => True
  | [i] => p i
  | i :: l => p i ∧ allJO p l
theorem allJO.mem {p : Nat → Prop} : ∀ {l : List Nat}, allJO p l → ∀ i ∈ l, p i
  | [], _, _, hi => by cases hi
  | [j], h, i, hi => by
    rcases List.mem_singleton.1 hi with rfl
    exact h
  | j :: j' :: l, h, i, hi => by
    rcases List.mem_cons.1 hi with rfl | hi
    · exact h.1
    · exact allJO.mem (l := j' :: l) h.2 i hi
theorem JA.all {fuel : Nat} {listed : List Bool} (rs : List Nat) (hr : Region.ready .any ops listed.toArray = rs) (hne : rs ≠ [])
    (h : allJO (JO D P f n R ops fuel listed k σ w) rs) : JA D P f n R ops (fuel + 1) listed.toArray k σ w :=
  fun a ha => wpAny_all hr hne fun i hi => h.mem i hi a ha
theorem JO.does {fuel : Nat} {listed : List Bool} {l : List Oper} {i : Nat} {listed' : List Bool} {Φ : Value → World → Prop} (hi : l[i]? = some o) (hl : listed.set i true = listed')
    (hg : GOk n σ l.toArray o.guard) (hd : Does P (ev n σ) o w Φ) (h : ∀ v w', Φ v w' → JA D P f n R l.toArray fuel listed'.toArray k (updO σ o.dst v) w') :
    JO D P f n R l.toArray fuel listed k σ w i := by
  intro a ha
  have hy : yielded l.toArray a.tmps = yieldE n σ l.toArray := funext (ha.yields _)
  have hi' : (l.toArray)[i]? = some o := by simpa using hi
  unfold wpOp
  simp only [hi', hy, hg.wanted, if_true, List.setIfInBounds_toArray, hl]
  exact .inl (wp_of_does (by rw [ha.eval]; exact hd) fun v w' hΦ => h v w' hΦ _ (ha.put _ _))
theorem JO.go {fuel : Nat} {listed : List Bool} {l : List Oper} {i : Nat} {listed' : List Bool} {v : Value} (hi : l[i]? = some o) (hl : listed.set i true = listed')
    (hg : GOk n σ l.toArray o.guard) (hr : Runs P (ev n σ) o w v) (h : JA D P f n R l.toArray fuel listed'.toArray k (updO σ o.dst v) w) :
    JO D P f n R l.toArray fuel listed k σ w i :=
  JO.does (Φ := fun u w' => u = v ∧ w' = w) hi hl hg (Does.of_run hr ⟨rfl, rfl⟩) fun _ _ ⟨hu, hw⟩ => by rw [hu, hw]; exact h
theorem JO.no {fuel : Nat} {listed : List Bool} {l : List Oper} {i : Nat} {listed' : List Bool} (hi : l[i]? = some o) (hl : listed.set i true = listed')
    (hg : GNo n σ l.toArray o.guard) (h : JA D P f n R l.toArray fuel listed'.toArray k (updO σ o.dst undef) w) :
    JO D P f n R l.toArray fuel listed k σ w i := by
  intro a ha
  have hy : yielded l.toArray a.tmps = yieldE n σ l.toArray := funext (ha.yields _)
  have hi' : (l.toArray)[i]? = some o := by simpa using hi
  unfold wpOp
  simp only [hi', hy, hg.unwanted, if_false, Bool.false_eq_true, List.setIfInBounds_toArray, hl]
  exact h _ (ha.put _ _)
theorem JA.done {fuel : Nat} {listed : List Bool} (hr : Region.ready .any ops listed.toArray = []) (h : J D P f n R k σ w) : JA D P f n R ops fuel listed.toArray k σ w :=
  fun a ha => wpAny_done hr ⟨rfl, ha.size, ha.defers, h a ha⟩ fuel
theorem JA.split {fuel : Nat} {listed : Array Bool} (b : Bool) (ht : b = true → JA D P f n R ops fuel listed k σ w) (hf : b = false → JA D P f n R ops fuel listed k σ w) : JA D P f n R ops fuel listed k σ w := by
  cases b with
  | true => exact ht rfl
  | false => exact hf rfl

/-- A region that draws, all of whose operations are quiet in a class of worlds: the text's order. -/
def JQ (D : List Deferred) (P : Program) (f : Fr) (n : Nat) (R : Ending → World → Prop) (ops : Array Oper) (C : World → Prop) (l : List Oper) (k : List Item) (σ : Env) : Prop :=
  ∀ a, Ag D n σ a → wpQuiet P ops C (fun a' => a'.tmps.size = n ∧ a'.defers = D ∧ ∀ w', C w' → Jk P f k R a' w') l a
theorem quiet_mono' (C : World → Prop) (ops : Array Oper) : ∀ (l : List Oper) (a : Act), wpQuiet P ops C (fun a' => a'.tmps.size = n ∧ a'.defers = D ∧ ∀ w', C w' → Jk P f k R a' w') l a →
    wpQuiet P ops C (fun a' => ∀ w', C w' → Qk D P f n R k .normal a' w') l a := by
  intro l
  induction l with
  | nil => intro a h w' hw'; exact ⟨rfl, h.1, h.2.1, h.2.2 w' hw'⟩
  | cons o l ih =>
    intro a h
    simp only [wpQuiet] at h ⊢
    split
    · rename_i hw
      rw [if_pos hw] at h
      exact Oper.quiet_mono (fun a => ih a) h
    · rename_i hw
      rw [if_neg hw] at h
      exact ih _ h
theorem J.quiet {id : Nat} {l : List Oper} (C : World → Prop) (hm : P.follows .mixedOrders = true) (hB : Region.lexB .any l.toArray = true) (hC : ∀ w', Same w w' → C w')
    (h : JQ D P f n R l.toArray C l k σ) (hp : f.plain l = true := by exact rfl) : J D P f n R (.code (.region id l.toArray true) :: k) σ w :=
  J.anyof hm (fun a ha => by
    simp only [Region.lexB, Bool.and_eq_true] at hB
    refine wpAny_of_quiet (Q := fun a' => ∀ w', C w' → Qk D P f n R k .normal a' w') (fun _ w' hw' h => h w' hw') _ _ _ _ (hC _ ⟨rfl, rfl, rfl, rfl⟩) ?_
    have := wpAnyQ_lex (C := C) (md := .any) hB.1 l.toArray.toList 0 (Array.replicate l.toArray.size false) a (by simp) (by simpa using hB.2) (by
      have := h a ha
      simpa using quiet_mono' C l.toArray l a this)
    simpa using this) hp
theorem JQ.nil {C : World → Prop} (h : ∀ w, C w → J D P f n R k σ w) : JQ D P f n R ops C [] k σ :=
  fun a ha => ⟨ha.size, ha.defers, fun w hw => h w hw a ha⟩
theorem JQ.go {C : World → Prop} {v : Value} (hg : GOk n σ ops o.guard) (hr : ∀ w, C w → Runs P (ev n σ) o w v) (h : JQ D P f n R ops C rest k (updO σ o.dst v)) : JQ D P f n R ops C (o :: rest) k σ := by
  intro a ha
  have hy : yielded ops a.tmps = yieldE n σ ops := funext (ha.yields ops)
  simp only [wpQuiet, hy, hg.wanted, if_true]
  refine ⟨v, fun w hw => ?_, h _ (ha.put _ _)⟩
  unfold Oper.quietAt
  rw [ha.eval, hr w hw]
  exact ⟨rfl, rfl⟩
theorem JQ.call {C : World → Prop} {v : Value} {g : FuncId} {l : List Value} (hg : GOk n σ ops o.guard) (hr : ∀ w, C w → (execOp (ev n σ) o).run P w = .ok (.enter g l.toArray) w)
    (hc : ∀ w, C w → Ret P g l w fun u w' => u = v ∧ C w') (h : JQ D P f n R ops C rest k (updO σ o.dst v)) : JQ D P f n R ops C (o :: rest) k σ := by
  intro a ha
  have hy : yielded ops a.tmps = yieldE n σ ops := funext (ha.yields ops)
  simp only [wpQuiet, hy, hg.wanted, if_true]
  refine ⟨v, fun w hw => ?_, h _ (ha.put _ _)⟩
  unfold Oper.quietAt
  rw [ha.eval, hr w hw]
  exact ⟨rfl, Calls.mono (hc w hw) fun e w' ⟨u, he, hu, hC⟩ => ⟨by rw [he, hu], hC⟩⟩
theorem JQ.no {C : World → Prop} (hg : GNo n σ ops o.guard) (h : JQ D P f n R ops C rest k (updO σ o.dst undef)) : JQ D P f n R ops C (o :: rest) k σ := by
  intro a ha
  have hy : yielded ops a.tmps = yieldE n σ ops := funext (ha.yields ops)
  simp only [wpQuiet, hy, hg.unwanted, if_false, Bool.false_eq_true]
  exact h _ (ha.put _ _)
theorem JQ.split {C : World → Prop} {l : List Oper} (b : Bool) (ht : b = true → JQ D P f n R ops C l k σ) (hf : b = false → JQ D P f n R ops C l k σ) : JQ D P f n R ops C l k σ := by
  cases b with
  | true => exact ht rfl
  | false => exact hf rfl
end
end Go.Eng
