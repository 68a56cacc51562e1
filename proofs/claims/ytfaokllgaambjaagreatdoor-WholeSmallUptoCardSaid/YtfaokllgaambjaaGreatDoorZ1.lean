/- Part 1 of the proof that WholeSmall holds: what the functions on its way do, step by step. -/
import Derived.Tactics
import Derived.AtR
import Derived.RangeFuncIn
import Derived.RangeFuncLeaves
import Derived.RangeFuncRecord
import Derived.RangeFuncSeq
import Derived.RangeFuncCalls
import Derived.OrdersIn
import Derived.TacticsIn
import Derived.Orders
import Derived.Deep.Quiet
import Derived.Below
import Derived.Laws.AppendOwn
import Derived.Laws.Entries
import Derived.IntWalk
set_option linter.unusedVariables false
set_option linter.unusedSimpArgs false
namespace Go.Eng
open Go
variable {D : List Deferred}
abbrev Env := Nat → Value
def upd (σ : Env) (d : Nat) (v : Value) : Env := fun t => bif Nat.beq t d then v else σ t
def updO (σ : Env) : Option Tmp → Value → Env
  | some d, v => upd σ d v
  | none, _ => σ
def upds (σ : Env) : List (Nat × Value) → Env
  | [] => σ
  | p :: l => upd (upds σ l) p.1 p.2
def Has (σ : Env) : List (Nat × Value) → Prop
  | [] => True
  | p :: l => σ p.1 = p.2 ∧ Has σ l
def envOf : List Value → Env
  | [], _ => undef
  | v :: _, 0 => v
  | _ :: l, t + 1 => envOf l t
def ev (n : Nat) (σ : Env) : Operand → Value
  | .tmp t => bif Nat.blt t n then σ t else undef
  | .const v => v
  | .global g => .pointer (some ⟨g, 0, none⟩)
  | .func f => .func (.func f) #[] #[]
structure Ag (D : List Deferred) (n : Nat) (σ : Env) (a : Act) : Prop where
  size : a.tmps.size = n
  at_ : ∀ t, t < n → a.tmps.getD t undef = σ t
  defers : a.defers = D
theorem Ag.eval {n : Nat} {σ : Env} {a : Act} (h : Ag D n σ a) : a.eval = ev n σ := by
  funext x
  cases x with
  | tmp t =>
    simp only [Act.eval, ev]
    cases hb : Nat.blt t n with
    | true => simp only [cond_true]; exact h.at_ t (by simpa [Nat.blt_eq] using hb)
    | false =>
      simp only [cond_false]
      have : ¬ t < n := by
        intro hl
        rw [← Nat.blt_eq] at hl
        rw [hl] at hb; cases hb
      rw [Array.getD_eq_getD_getElem?, Array.getElem?_eq_none (by rw [h.size]; exact Nat.not_lt.mp this)]
      rfl
  | const v => rfl
  | global g => rfl
  | func f => rfl
theorem Ag.put {n : Nat} {σ : Env} {a : Act} (h : Ag D n σ a) (d : Option Tmp) (v : Value) : Ag D n (updO σ d v) (a.put d v) := by
  cases d with
  | none => exact h
  | some d =>
    refine ⟨by simp [Act.put, h.size], fun t ht => ?_, h.defers⟩
    simp only [Act.put, updO, upd]
    rw [Array.getD_eq_getD_getElem?, Array.getElem?_setIfInBounds]
    cases hb : Nat.beq t d with
    | true =>
      have e : t = d := by simpa [Nat.beq_eq] using hb
      subst e
      have hd : t < a.tmps.size := by rw [h.size]; exact ht
      simp [hd]
    | false =>
      have e : ¬ d = t := by
        intro e; subst e; simp at hb
      simp only [e, if_false, cond_false]
      rw [← Array.getD_eq_getD_getElem?]
      exact h.at_ t ht
inductive Fr where
  | fn (f : FuncId)
  | rd (l : Nat)
def Fr.ok : Fr → Frame → Prop
  | .fn f, b => b.fn = f ∧ b.kind = .normal ∧ b.roundOf = none
  | .rd l, b => b.kind = .normal ∧ b.roundOf = some l
def Fr.ends (P : Program) (R : Ending → World → Prop) (m : Machine) : Fr → List Frame → Prop
  | .fn f, cs => ∃ e w' fr, R e w' ∧ Comes P m (lone fr cs w') e ∧ fr.fn = f ∧ fr.leaving P w' e
  | .rd _, c :: cs => ∃ v w', R (.returned v) w' ∧ Steps P m (lone (c.finish v) cs w')
  | .rd _, [] => True
def plainOp : Op → Bool
  | .defer _ => false
  | _ => true
theorem plainOp.ne {o : Op} (h : plainOp o = true) : ∀ c, o ≠ .defer c := by
  intro c e
  rw [e] at h; cases h
def Fr.plain : Fr → List Oper → Bool
  | .fn _, _ => true
  | .rd _, l => l.all fun o => plainOp o.op
theorem Fr.ends.steps {P : Program} {R : Ending → World → Prop} {m m' : Machine} {f : Fr} {cs : List Frame} (hs : Steps P m m') (h : f.ends P R m' cs) : f.ends P R m cs := by
  cases f with
  | fn f =>
    obtain ⟨e, w', fr, hR, hc, hfn, hl⟩ := h
    exact ⟨e, w', fr, hR, Comes.of_steps hs hc, hfn, hl⟩
  | rd l =>
    cases cs with
    | nil => trivial
    | cons c cs =>
      obtain ⟨v, w', hR, hc⟩ := h
      exact ⟨v, w', hR, Steps.trans hs hc⟩
def Jk (P : Program) (f : Fr) (k : List Item) (R : Ending → World → Prop) (a : Act) (w : World) : Prop :=
  ∀ b : Frame, f.ok b → ∀ cs, f.ends P R (lone (b.atR a k) cs w) cs
theorem jk_of {P : Program} {f : FuncId} {k : List Item} {R : Ending → World → Prop} {a : Act} {w : World} (h : ∀ b : Frame, b.fn = f → b.kind = .normal → ∀ cs, ∃ e w' fr, R e w' ∧ Comes P (lone (b.at a k) cs w) (lone fr cs w') e ∧ fr.fn = f ∧ fr.leaving P w' e) : Jk P (.fn f) k R a w := by
  intro b hb cs
  rw [Frame.atR_of_none hb.2.2]
  exact h b hb.1 hb.2.1 cs
theorem jk_to {P : Program} {f : FuncId} {k : List Item} {R : Ending → World → Prop} {a : Act} {w : World} (h : Jk P (.fn f) k R a w) : ∀ b : Frame, b.fn = f → b.kind = .normal → ∀ cs, ∃ e w' fr, R e w' ∧ Comes P (lone (b.at a k) cs w) (lone fr cs w') e ∧ fr.fn = f ∧ fr.leaving P w' e := by
  intro b hb hk cs
  have h1 := h { b with roundOf := none } ⟨hb, hk, rfl⟩ cs
  rw [Frame.atR_of_none rfl] at h1
  exact h1
def J (D : List Deferred) (P : Program) (f : Fr) (n : Nat) (R : Ending → World → Prop) (k : List Item) (σ : Env) (w : World) : Prop :=
  ∀ a, Ag D n σ a → Jk P f k R a w
def Qk (D : List Deferred) (P : Program) (f : Fr) (n : Nat) (R : Ending → World → Prop) (k : List Item) (e : Exit) (a : Act) (w : World) : Prop :=
  e = .normal ∧ a.tmps.size = n ∧ a.defers = D ∧ Jk P f k R a w
def JL (D : List Deferred) (P : Program) (f : Fr) (n : Nat) (R : Ending → World → Prop) (ops : Array Oper) (l : List Oper) (k : List Item) (σ : Env) (w : World) : Prop :=
  ∀ a, Ag D n σ a → wpList P ops (Qk D P f n R k) l a w
section
variable {P : Program} {f : Fr} {n : Nat} {R : Ending → World → Prop} {k : List Item} {σ : Env} {w : World}
theorem Jk.of_steps {a a' : Act} {k k' : List Item} {w' : World}
    (hs : ∀ (b : Frame) cs, Steps P (lone (b.atR a k) cs w) (lone (b.atR a' k') cs w')) (h : Jk P f k' R a' w') : Jk P f k R a w :=
  fun b hb cs => Fr.ends.steps (hs b cs) (h b hb cs)
theorem J.seq {x y : Code} (h : J D P f n R (.code x :: .code y :: k) σ w) : J D P f n R (.code (.seq x y) :: k) σ w :=
  fun a ha => Jk.of_steps (fun _ _ => .one stepR_seq) (h a ha)
theorem J.skip (h : J D P f n R k σ w) : J D P f n R (.code .skip :: k) σ w :=
  fun a ha => Jk.of_steps (fun _ _ => .one stepR_skip) (h a ha)
theorem J.block {id : Nat} {c : Code} (h : J D P f n R (.code c :: .inBlock id :: k) σ w) : J D P f n R (.code (.block id c) :: k) σ w :=
  fun a ha => Jk.of_steps (fun _ _ => .one stepR_block) (h a ha)
theorem J.inBlock {id : Nat} (h : J D P f n R k σ w) : J D P f n R (.inBlock id :: k) σ w :=
  fun a ha => Jk.of_steps (fun _ _ => .one stepR_inBlock) (h a ha)
theorem J.exit {id : Nat} {k' : List Item} (he : exitTo id k = some k') (h : J D P f n R k' σ w) : J D P f n R (.code (.exit id) :: k) σ w :=
  fun a ha => Jk.of_steps (fun _ _ => .one (stepR_exit he)) (h a ha)
theorem J.cond {c : Operand} {x y : Code} {t : Bool} (hc : ev n σ c = .bool t) (ht : t = true → J D P f n R (.code x :: k) σ w)
    (hf : t = false → J D P f n R (.code y :: k) σ w) : J D P f n R (.code (.cond c x y) :: k) σ w := by
  intro a ha
  refine Jk.of_steps (fun _ _ => .one (stepR_cond (t := t) (by rw [ha.eval]; exact hc))) ?_
  cases t with
  | true => exact ht rfl a ha
  | false => exact hf rfl a ha
theorem J.cond_t {c : Operand} {x y : Code} {t : Bool} (hc : ev n σ c = .bool t) (hb : t = true) (ht : J D P f n R (.code x :: k) σ w) :
    J D P f n R (.code (.cond c x y) :: k) σ w := J.cond hc (fun _ => ht) (fun h => by rw [hb] at h; cases h)
theorem J.cond_f {c : Operand} {x y : Code} {t : Bool} (hc : ev n σ c = .bool t) (hb : t = false) (ht : J D P f n R (.code y :: k) σ w) :
    J D P f n R (.code (.cond c x y) :: k) σ w := J.cond hc (fun h => by rw [hb] at h; cases h) (fun _ => ht)
theorem J.cond_d {c : Operand} {x y : Code} {p : Prop} [Decidable p] (hc : ev n σ c = .bool (decide p)) (ht : p → J D P f n R (.code x :: k) σ w)
    (hf : ¬ p → J D P f n R (.code y :: k) σ w) : J D P f n R (.code (.cond c x y) :: k) σ w :=
  J.cond hc (fun h => ht (of_decide_eq_true h)) (fun h => hf (of_decide_eq_false h))
theorem J.loop {c : Code} {ι : Type} (S : ι → List (Nat × Value)) (Φ : ι → World → Prop) (μ : ι → Nat) (C : List (Nat × Value)) (i0 : ι)
    (hC : Has σ C) (hS : Has σ (S i0)) (hΦ : Φ i0 w)
    (step : ∀ i (ρ : Env) (w : World), Φ i w → (∀ i' (σ' : Env) (w' : World), μ i' < μ i → Has σ' C → Has σ' (S i') → Φ i' w' → J D P f n R (.inLoop c :: k) σ' w') →
      J D P f n R (.code c :: .inLoop c :: k) (upds (upds ρ C) (S i)) w) : J D P f n R (.code (.loop c) :: k) σ w := by
  have hup : ∀ (l : List (Nat × Value)) (σ : Env), Has σ l → upds σ l = σ := by
    intro l
    induction l with
    | nil => intro σ _; rfl
    | cons p l ih =>
      intro σ h
      simp only [upds, ih σ h.2]
      funext t
      simp only [upd]
      cases hb : Nat.beq t p.1 with
      | true =>
        have e : t = p.1 := by simpa [Nat.beq_eq] using hb
        rw [e]; exact h.1.symm
      | false => rfl
  have main : ∀ m i (σ : Env) (w : World), μ i ≤ m → Has σ C → Has σ (S i) → Φ i w → J D P f n R (.code c :: .inLoop c :: k) σ w := by
    intro m
    induction m with
    | zero =>
      intro i σ w hm hC hS hΦ
      have := step i σ w hΦ (fun i' _ _ h => by omega)
      rw [hup C σ hC, hup (S i) σ hS] at this
      exact this
    | succ m ih =>
      intro i σ w hm hC hS hΦ
      have := step i σ w hΦ (fun i' σ' w' h hC' hS' hΦ' a ha => Jk.of_steps (fun _ _ => .one stepR_inLoop) (ih i' σ' w' (by omega) hC' hS' hΦ' a ha))
      rw [hup C σ hC, hup (S i) σ hS] at this
      exact this
  exact fun a ha => Jk.of_steps (fun _ _ => .one stepR_loop) (main (μ i0) i0 σ w (Nat.le_refl _) hC hS hΦ a ha)
theorem J.ret_of {f : FuncId} {fn : Func} {v : Value} (hf : P.funcs[f]? = some fn) (hr : ∀ a, Ag [] n σ a → (results fn a.tmps).run P w = .ok v w)
    (hR : R (.returned v) w) : J [] P (.fn f) n R (.code .ret :: k) σ w := by
  intro a ha
  refine jk_of ?_
  intro b hb hk cs
  refine ⟨.returned v, w, { b.at a (.code .ret :: k) with mode := .returning }, hR, .one step_ret, hb, rfl, ha.defers, hk, fn, ?_, hr a ha⟩
  show P.funcs[b.fn]? = some fn
  rw [hb]; exact hf
theorem J.end_of {f : FuncId} {fn : Func} {v : Value} (hf : P.funcs[f]? = some fn) (hr : ∀ a, Ag [] n σ a → (results fn a.tmps).run P w = .ok v w)
    (hR : R (.returned v) w) : J [] P (.fn f) n R [] σ w := by
  intro a ha
  refine jk_of ?_
  intro b hb hk cs
  refine ⟨.returned v, w, { b.at a [] with mode := .returning }, hR, .one step_end, hb, rfl, ha.defers, hk, fn, ?_, hr a ha⟩
  show P.funcs[b.fn]? = some fn
  rw [hb]; exact hf
theorem Ag.tmp {a : Act} (ha : Ag D n σ a) (t : Tmp) : a.tmps.getD t undef = ev n σ (.tmp t) := by
  have := congrFun ha.eval (.tmp t)
  exact this
theorem results0 {fn : Func} (h : fn.results = #[]) (a : Act) : (results fn a.tmps).run P w = .ok (.tuple #[]) w := by simp [results, h]
theorem results1 {fn : Func} {t : Tmp} {v : Value} (h : fn.results = #[.tmp t]) (hv : ev n σ (.tmp t) = v) (a : Act) (ha : Ag D n σ a) :
    (results fn a.tmps).run P w = .ok v w := by
  rw [← hv, ← ha.tmp]; simp [results, h]
theorem results2 {fn : Func} {t u : Tmp} {v x : Value} (h : fn.results = #[.tmp t, .tmp u]) (hv : ev n σ (.tmp t) = v) (hx : ev n σ (.tmp u) = x)
    (a : Act) (ha : Ag D n σ a) : (results fn a.tmps).run P w = .ok (.tuple #[v, x]) w := by
  rw [← hv, ← hx, ← ha.tmp, ← ha.tmp]; simp [results, h]
theorem results3 {fn : Func} {t u s : Tmp} {v x y : Value} (h : fn.results = #[.tmp t, .tmp u, .tmp s]) (hv : ev n σ (.tmp t) = v) (hx : ev n σ (.tmp u) = x)
    (hy : ev n σ (.tmp s) = y) (a : Act) (ha : Ag D n σ a) : (results fn a.tmps).run P w = .ok (.tuple #[v, x, y]) w := by
  rw [← hv, ← hx, ← hy, ← ha.tmp, ← ha.tmp, ← ha.tmp]; simp [results, h]
theorem J.ret0 {f : FuncId} {fn : Func} (hf : P.funcs[f]? = some fn) (h : fn.results = #[]) (hR : R (.returned (.tuple #[])) w) : J [] P (.fn f) n R (.code .ret :: k) σ w :=
  J.ret_of hf (fun a _ => results0 h a) hR
theorem J.end0 {f : FuncId} {fn : Func} (hf : P.funcs[f]? = some fn) (h : fn.results = #[]) (hR : R (.returned (.tuple #[])) w) : J [] P (.fn f) n R [] σ w :=
  J.end_of hf (fun a _ => results0 h a) hR
theorem J.ret1 {f : FuncId} {fn : Func} {t : Tmp} {v : Value} (hf : P.funcs[f]? = some fn) (h : fn.results = #[.tmp t]) (hv : ev n σ (.tmp t) = v)
    (hR : R (.returned v) w) : J [] P (.fn f) n R (.code .ret :: k) σ w := J.ret_of hf (results1 h hv) hR
theorem J.ret2 {f : FuncId} {fn : Func} {t u : Tmp} {v x : Value} (hf : P.funcs[f]? = some fn) (h : fn.results = #[.tmp t, .tmp u]) (hv : ev n σ (.tmp t) = v)
    (hx : ev n σ (.tmp u) = x) (hR : R (.returned (.tuple #[v, x])) w) : J [] P (.fn f) n R (.code .ret :: k) σ w := J.ret_of hf (results2 h hv hx) hR
theorem J.ret3 {f : FuncId} {fn : Func} {t u s : Tmp} {v x y : Value} (hf : P.funcs[f]? = some fn) (h : fn.results = #[.tmp t, .tmp u, .tmp s]) (hv : ev n σ (.tmp t) = v)
    (hx : ev n σ (.tmp u) = x) (hy : ev n σ (.tmp s) = y) (hR : R (.returned (.tuple #[v, x, y])) w) : J [] P (.fn f) n R (.code .ret :: k) σ w :=
  J.ret_of hf (results3 h hv hx hy) hR
theorem envOf_get : ∀ (l : List Value) (t : Nat), envOf l t = l[t]?.getD undef := by
  intro l
  induction l with
  | nil => intro t; simp [envOf]
  | cons v l ih =>
    intro t
    cases t with
    | zero => simp [envOf]
    | succ t => simp [envOf, ih]
theorem Calls.of_J {f : FuncId} {fn : Func} {c : Code} {l : List Value} (hf : P.funcs[f]? = some fn) (hb : fn.body = some c) (hn : fn.ntmps = n) (hl : Nat.ble l.length n = true)
    (h : J [] P (.fn f) n R [.code c] (envOf l) w) : Calls P f l.toArray w R := by
  intro cs
  let b : Frame := { (default : Frame) with fn := f, kind := .normal }
  have henter : Frame.enter P f l.toArray .normal = b.at { tmps := l.toArray ++ Array.replicate (fn.ntmps - l.toArray.size) undef, defers := [] } [.code c] := by
    simp [Frame.enter, Frame.at, hf, hb, b]
  have hle : l.length ≤ n := Nat.le_of_ble_eq_true hl
  have hag : Ag [] n (envOf l) { tmps := l.toArray ++ Array.replicate (fn.ntmps - l.toArray.size) undef, defers := [] } := by
    refine ⟨by simp [hn]; omega, fun t ht => ?_, rfl⟩
    rw [envOf_get, Array.getD_eq_getD_getElem?, Array.getElem?_append]
    simp only [List.size_toArray, List.getElem?_toArray]
    split
    · rfl
    · rename_i hge
      rw [Array.getElem?_replicate, List.getElem?_eq_none (by omega)]
      split <;> rfl
  obtain ⟨e, w', fr, hR, hc, hfn, hlv⟩ := jk_to (h _ hag) b rfl rfl cs
  rw [← henter] at hc
  exact ⟨e, w', fr, hR, hc, hfn, hlv⟩
theorem J.region_of {f : FuncId} {id : Nat} {ops : Array Oper} {dr : Bool} (h : ∀ a, Ag D n σ a → (Code.region id ops dr).wp P (Qk D P (.fn f) n R k) a w) : J D P (.fn f) n R (.code (.region id ops dr) :: k) σ w := by
  intro a ha
  refine jk_of ?_
  intro b hb hk cs
  obtain ⟨e, a', w', ⟨rfl, _, _, hj⟩, harr⟩ := h a ha b k cs
  obtain ⟨e2, w2, fr, hR, hc, hfn, hl⟩ := jk_to hj b hb hk cs
  exact ⟨e2, w2, fr, hR, Comes.of_steps harr hc, hfn, hl⟩
theorem Oper.wpIn_of_wp {l : Nat} {o : Oper} {a : Act} {K : Act → World → Prop} {Q : Exit → Act → World → Prop} (hp : plainOp o.op = true) (h : o.wp P a w K Q) : o.wpIn (Fence.wide.inRound l) 0 P a w K Q := by
  refine ⟨fun f _ => trivial, ?_⟩
  rw [Oper.semAt_eq _ _ _ (plainOp.ne hp)]
  unfold Oper.wp at h
  revert h
  generalize (execOp a.eval o).run P w = r
  intro h
  cases r with
  | halt x w' => cases x <;> first | exact h.elim | exact h
  | ok x w' =>
    cases x with
    | value v => exact h
    | skip => exact h
    | defer d => exact h
    | enter g args => exact ⟨fun hd => (by cases hd), CallsIn.mono (CallsIn.inRound l (callsIn_wide.2 h)) fun e w'' he => by cases e <;> exact he⟩
    | row row args => exact ⟨fun hd => (by cases hd), fun c cs _ => (fun ⟨v, w2, hr, hs⟩ => ⟨v, w2, hr, stepsIn_wide.2 hs⟩) (h c cs)⟩
    | _ => exact h.elim
theorem wpListIn_of {l : Nat} {ops : Array Oper} {Q : Exit → Act → World → Prop} (hQ : ¬ LetsOut Q) : ∀ (os : List Oper) (a : Act) (w : World), os.all (fun o : Oper => plainOp o.op) = true → wpList P ops Q os a w → wpListIn (Fence.wide.inRound l) 0 P ops Q os a w
  | [], _, _, _, h => h
  | o :: os, a, w, hp, h => by
    simp only [List.all_cons, Bool.and_eq_true] at hp
    simp only [wpList] at h
    simp only [wpListIn]
    split at h
    · next hw =>
      rw [if_pos hw]
      refine Oper.wpIn_of_wp hp.1 ?_
      rcases h with h | ⟨_, h⟩
      · exact Oper.wp_mono (fun a' w' h' => wpListIn_of hQ os a' w' hp.2 h') h
      · exact absurd h hQ
    · next hw =>
      rw [if_neg hw]
      exact ⟨fun _ _ => trivial, wpListIn_of hQ os _ _ hp.2 h⟩
theorem wpAnyIn_of {l : Nat} {ops : Array Oper} {Q : Exit → Act → World → Prop} {md : Region.Mode} (hQ : ¬ LetsOut Q) (hp : ∀ (i : Nat) (o : Oper), ops[i]? = some o → plainOp o.op = true) : ∀ (fuel : Nat) (listed : Array Bool) (a : Act) (w : World), wpAny P md ops Q fuel listed a w → wpAnyIn (Fence.wide.inRound l) 0 P md ops Q fuel listed a w
  | 0, _, _, _, h => h
  | fuel + 1, listed, a, w, h => by
    refine ⟨h.1, fun i hi => ?_⟩
    have h2 := h.2 i hi
    unfold wpOp at h2
    unfold wpOpIn
    split at h2
    · next ho => simp only [ho]; exact wpAnyIn_of hQ hp fuel _ _ _ h2
    · next o ho =>
      simp only [ho]
      split at h2
      · next hw =>
        rw [if_pos hw]
        refine Oper.wpIn_of_wp (hp i o ho) ?_
        rcases h2 with h2 | ⟨_, h2⟩
        · exact Oper.wp_mono (fun a' w' h' => wpAnyIn_of hQ hp fuel _ a' w' h') h2
        · exact absurd h2 hQ
      · next hw =>
        rw [if_neg hw]
        exact ⟨fun _ _ => trivial, wpAnyIn_of hQ hp fuel _ _ _ h2⟩
theorem qk_lets {D : List Deferred} : ¬ LetsOut (Qk D P f n R k) := by
  rintro ⟨a, w, h, _⟩
  cases h
theorem J.region_rd {l id : Nat} {ops : Array Oper} {dr : Bool} (h : ∀ a, Ag D n σ a → (Code.region id ops dr).wpIn (Fence.wide.inRound l) 0 P (Qk D P (.rd l) n R k) a w) : J D P (.rd l) n R (.code (.region id ops dr) :: k) σ w := by
  intro a ha b hb cs
  cases cs with
  | nil => trivial
  | cons c cs =>
    obtain ⟨e, a', w', ⟨rfl, _, _, hj⟩, harr⟩ := h a ha b k (c :: cs) hb.2 trivial (room_wide _)
    exact Fr.ends.steps (StepsIn.steps harr) (hj b hb (c :: cs))
theorem J.region {id : Nat} {l : List Oper} (h : JL D P f n R l.toArray l k σ w) (hp : f.plain l = true := by exact rfl) : J D P f n R (.code (.region id l.toArray false) :: k) σ w := by
  cases f with
  | fn f => exact J.region_of fun a ha => wp_region_lit (h a ha)
  | rd r => exact J.region_rd fun a ha => wpIn_region_lit (wpListIn_of qk_lets l a w hp (h a ha))
theorem J.anyof {id : Nat} {ops : Array Oper} (hm : P.follows .mixedOrders = true) (h : ∀ a, Ag D n σ a → wpAny P .any ops (Qk D P f n R k) ops.size (Array.replicate ops.size false) a { w with drawn := w.drawn + 1 }) (hp : f.plain ops.toList = true) : J D P f n R (.code (.region id ops true) :: k) σ w := by
  cases f with
  | fn f => exact J.region_of fun a ha => wp_region_any hm (h a ha)
  | rd r => exact J.region_rd fun a ha => wpIn_region_any hm (wpAnyIn_of qk_lets (fun i o ho => by
      have hm : o ∈ ops.toList := List.mem_of_getElem? (by rw [Array.getElem?_toList]; exact ho)
      exact List.all_eq_true.1 hp o hm) _ _ _ _ (h a ha))
theorem JL.nil {ops : Array Oper} (h : J D P f n R k σ w) : JL D P f n R ops [] k σ w :=
  fun a ha => wpList_nil ⟨rfl, ha.size, ha.defers, h a ha⟩
def yieldE (n : Nat) (σ : Env) (ops : Array Oper) (j : Nat) : Option Bool :=
  match ((ops[j]?).bind (·.dst)).map (fun t => ev n σ (.tmp t)) with
  | some (.bool b) => some b
  | _ => none
theorem Ag.yields {a : Act} (ha : Ag D n σ a) (ops : Array Oper) (j : Nat) : yielded ops a.tmps j = yieldE n σ ops j := by
  unfold Go.yielded yieldE
  cases (ops[j]?).bind (·.dst) with
  | none => rfl
  | some t =>
    simp only [Option.bind_some, Option.map_some]
    rw [← ha.tmp, Array.getD_eq_getD_getElem?]
    cases a.tmps[t]? with
    | none => simp [undef]
    | some v => simp only [Option.getD_some]; cases v <;> rfl
def Ret (P : Program) (g : FuncId) (l : List Value) (w : World) (Φ : Value → World → Prop) : Prop :=
  Calls P g l.toArray w fun e w' => ∃ v, e = .returned v ∧ Φ v w'
theorem Ret.mono {g : FuncId} {l : List Value} {Φ Ψ : Value → World → Prop} (h : Ret P g l w Φ) (hm : ∀ v w', Φ v w' → Ψ v w') : Ret P g l w Ψ :=
  Calls.mono h fun _ _ ⟨v, he, hΦ⟩ => ⟨v, he, hm _ _ hΦ⟩
theorem JL.split {ops : Array Oper} {l : List Oper} (b : Bool) (ht : b = true → JL D P f n R ops l k σ w) (hf : b = false → JL D P f n R ops l k σ w) : JL D P f n R ops l k σ w := by
  cases b with
  | true => exact ht rfl
  | false => exact hf rfl
end
end Go.Eng
namespace Go.Eng
open Go
variable {D : List Deferred}
def GOk (n : Nat) (σ : Env) (ops : Array Oper) : Option (Nat × Bool) → Prop
  | none => True
  | some g => ∃ b, yieldE n σ ops g.1 = some b ∧ b = g.2
def GNo (n : Nat) (σ : Env) (ops : Array Oper) : Option (Nat × Bool) → Prop
  | none => False
  | some g => ∃ r, yieldE n σ ops g.1 = r ∧ r ≠ some g.2
theorem gno {b c : Bool} (h : b = !c) : some b ≠ some c := by
  subst h; cases c <;> decide
theorem GOk.wanted {n : Nat} {σ : Env} {ops : Array Oper} {o : Oper} (h : GOk n σ ops o.guard) : Region.wanted o (yieldE n σ ops) = true := by
  unfold Region.wanted
  cases hg : o.guard with
  | none => rfl
  | some g =>
    rw [hg] at h
    obtain ⟨b, hy, hb⟩ := h
    simp [hy, hb]
theorem GNo.unwanted {n : Nat} {σ : Env} {ops : Array Oper} {o : Oper} (h : GNo n σ ops o.guard) : Region.wanted o (yieldE n σ ops) = false := by
  unfold Region.wanted
  cases hg : o.guard with
  | none => rw [hg] at h; exact h.elim
  | some g =>
    rw [hg] at h
    obtain ⟨r, hy, hb⟩ := h
    obtain ⟨j, c⟩ := g
    simp only [hy]
    exact beq_eq_false_iff_ne.2 hb
def DoesR (P : Program) (Φ : Value → World → Prop) : Result Next → Prop
  | .ok (.value v) w' => Φ v w'
  | .ok .skip w' => Φ undef w'
  | .ok (.enter g args) w' => Calls P g args w' fun e w'' => ∃ v, e = .returned v ∧ Φ v w''
  | _ => False
def Does (P : Program) (ρ : Operand → Value) (o : Oper) (w : World) (Φ : Value → World → Prop) : Prop := DoesR P Φ ((execOp ρ o).run P w)
def Runs (P : Program) (ρ : Operand → Value) (o : Oper) (w : World) (v : Value) : Prop := (execOp ρ o).run P w = .ok (.value v) w
section
variable {P : Program} {f : Fr} {n : Nat} {R : Ending → World → Prop} {k : List Item} {σ : Env} {w : World} {ops : Array Oper} {o : Oper} {rest : List Oper}
theorem Does.of_run {ρ : Operand → Value} {v : Value} {w' : World} {Φ : Value → World → Prop} (h : (execOp ρ o).run P w = .ok (.value v) w') (hΦ : Φ v w') : Does P ρ o w Φ := by
  unfold Does; rw [h]; exact hΦ
theorem Does.of_skip {ρ : Operand → Value} {w' : World} {Φ : Value → World → Prop} (h : (execOp ρ o).run P w = .ok .skip w') (hΦ : Φ undef w') : Does P ρ o w Φ := by
  unfold Does; rw [h]; exact hΦ
theorem Does.of_enter {ρ : Operand → Value} {w' : World} {g : FuncId} {l : List Value} {Φ : Value → World → Prop} (h : (execOp ρ o).run P w = .ok (.enter g l.toArray) w') (hΦ : Ret P g l w' Φ) : Does P ρ o w Φ := by
  unfold Does; rw [h]; exact hΦ
theorem wp_of_does {a : Act} {Φ : Value → World → Prop} {K : Act → World → Prop} {Q : Exit → Act → World → Prop} (h : Does P a.eval o w Φ) (hK : ∀ v w', Φ v w' → K (a.put o.dst v) w') :
    o.wp P a w K Q := by
  unfold Does at h
  unfold Oper.wp
  revert h
  generalize (execOp a.eval o).run P w = r
  intro h
  cases r with
  | halt x w' => exact h.elim
  | ok x w' =>
    cases x with
    | value v => exact hK _ _ h
    | skip => exact hK _ _ h
    | enter g args => exact Calls.mono h fun e w'' ⟨v, he, hΦ⟩ => by rw [he]; exact hK _ _ hΦ
    | _ => exact h.elim
theorem JL.does {Φ : Value → World → Prop} (hg : GOk n σ ops o.guard) (hd : Does P (ev n σ) o w Φ)
    (h : ∀ v w', Φ v w' → JL D P f n R ops rest k (updO σ o.dst v) w') : JL D P f n R ops (o :: rest) k σ w := by
  intro a ha
  have hy : yielded ops a.tmps = yieldE n σ ops := funext (ha.yields ops)
  simp only [wpList, hy, hg.wanted, if_true]
  refine .inl (wp_of_does (by rw [ha.eval]; exact hd) fun v w' hΦ => h v w' hΦ _ (ha.put _ _))
theorem JL.go {v : Value} (hg : GOk n σ ops o.guard) (hr : Runs P (ev n σ) o w v) (h : JL D P f n R ops rest k (updO σ o.dst v) w) : JL D P f n R ops (o :: rest) k σ w :=
  JL.does (Φ := fun u w' => u = v ∧ w' = w) hg (Does.of_run hr ⟨rfl, rfl⟩) fun _ _ ⟨hu, hw⟩ => by rw [hu, hw]; exact h
theorem JL.no (hg : GNo n σ ops o.guard) (h : JL D P f n R ops rest k (updO σ o.dst undef) w) : JL D P f n R ops (o :: rest) k σ w := by
  intro a ha
  have hy : yielded ops a.tmps = yieldE n σ ops := funext (ha.yields ops)
  simp only [wpList, hy, hg.unwanted, if_false, Bool.false_eq_true]
  exact h _ (ha.put _ _)
structure Same (w w' : World) : Prop where
  heap : w'.heap = w.heap
  os : w'.os = w.os
  tape : w'.tape = w.tape
  output : w'.output = w.output
def JA (D : List Deferred) (P : Program) (f : Fr) (n : Nat) (R : Ending → World → Prop) (ops : Array Oper) (fuel : Nat) (listed : Array Bool) (k : List Item) (σ : Env) (w : World) : Prop :=
  ∀ a, Ag D n σ a → wpAny P .any ops (Qk D P f n R k) fuel listed a w
def falses : Nat → List Bool
  | 0 => []
  | m + 1 => false :: falses m
theorem falses_eq (m : Nat) : (falses m).toArray = Array.replicate m false := by
  have : falses m = List.replicate m false := by
    induction m with
    | zero => rfl
    | succ m ih => simp [falses, ih, List.replicate_succ]
  rw [this]; simp
theorem J.any {id : Nat} {l : List Oper} (hm : P.follows .mixedOrders = true)
    (h : ∀ w', Same w w' → JA D P f n R l.toArray l.length (falses l.length).toArray k σ w') (hp : f.plain l = true := by exact rfl) : J D P f n R (.code (.region id l.toArray true) :: k) σ w :=
  J.anyof hm (fun a ha => by
    have := h { w with drawn := w.drawn + 1 } ⟨rfl, rfl, rfl, rfl⟩ a ha
    rw [falses_eq] at this
    simpa using this) hp
theorem JA.take {fuel : Nat} {listed : List Bool} {l : List Oper} {v : Value} (i : Nat) {listed' : List Bool} (hi : l[i]? = some o)
    (hs : Region.noSelect l.toArray = true) (hf : Region.free .any l.toArray listed.toArray i = true) (hr : (Region.ready .any l.toArray listed.toArray).contains i = true)
    (hl : listed.set i true = listed') (hg : GOk n σ l.toArray o.guard) (hv : ∀ w, Runs P (ev n σ) o w v)
    (h : JA D P f n R l.toArray fuel listed'.toArray k (updO σ o.dst v) w) : JA D P f n R l.toArray (fuel + 1) listed.toArray k σ w := by
  intro a ha
  have hy : yielded l.toArray a.tmps = yieldE n σ l.toArray := funext (ha.yields _)
  refine wpAny_take (by simpa using hi) hs hf hr (fun c a w hq => by obtain ⟨he, _⟩ := hq; cases he) (v := v) ?_ ?_
  · exact .inl ⟨by rw [hy]; exact hg.wanted, fun w => by rw [ha.eval]; exact hv w⟩
  · rw [List.setIfInBounds_toArray, hl]
    exact h _ (ha.put _ _)
def JO (D : List Deferred) (P : Program) (f : Fr) (n : Nat) (R : Ending → World → Prop) (ops : Array Oper) (fuel : Nat) (listed : List Bool) (k : List Item) (σ : Env) (w : World) (i : Nat) : Prop :=
  ∀ a, Ag D n σ a → wpOp P ops (Qk D P f n R k) i (wpAny P .any ops (Qk D P f n R k) fuel (listed.toArray.setIfInBounds i true)) a w
def allJO (p : Nat → Prop) : List Nat → Prop
  | [] => True
  | [i] => p i
  | i :: l => p i ∧ allJO p l
theorem allJO.mem {p : Nat → Prop} : ∀ {l : List Nat}, allJO p l → ∀ i ∈ l, p i
  | [], _, _, hi => by cases hi
  | [j], h, i, hi => by
    rcases List.mem_singleton.1 hi with rfl
    exact h
  | j :: j' :: l, h, i, hi => by
    rcases List.mem_cons.1 hi with rfl | hi
    · exact h.1
    · exact allJO.mem (l := j' :: l) h.2 i hi
theorem JA.all {fuel : Nat} {listed : List Bool} (rs : List Nat) (hr : Region.ready .any ops listed.toArray = rs) (hne : rs ≠ [])
    (h : allJO (JO D P f n R ops fuel listed k σ w) rs) : JA D P f n R ops (fuel + 1) listed.toArray k σ w :=
  fun a ha => wpAny_all hr hne fun i hi => h.mem i hi a ha
theorem JO.does {fuel : Nat} {listed : List Bool} {l : List Oper} {i : Nat} {listed' : List Bool} {Φ : Value → World → Prop} (hi : l[i]? = some o) (hl : listed.set i true = listed')
    (hg : GOk n σ l.toArray o.guard) (hd : Does P (ev n σ) o w Φ) (h : ∀ v w', Φ v w' → JA D P f n R l.toArray fuel listed'.toArray k (updO σ o.dst v) w') :
    JO D P f n R l.toArray fuel listed k σ w i := by
  intro a ha
  have hy : yielded l.toArray a.tmps = yieldE n σ l.toArray := funext (ha.yields _)
  have hi' : (l.toArray)[i]? = some o := by simpa using hi
  unfold wpOp
  simp only [hi', hy, hg.wanted, if_true, List.setIfInBounds_toArray, hl]
  exact .inl (wp_of_does (by rw [ha.eval]; exact hd) fun v w' hΦ => h v w' hΦ _ (ha.put _ _))
theorem JO.go {fuel : Nat} {listed : List Bool} {l : List Oper} {i : Nat} {listed' : List Bool} {v : Value} (hi : l[i]? = some o) (hl : listed.set i true = listed')
    (hg : GOk n σ l.toArray o.guard) (hr : Runs P (ev n σ) o w v) (h : JA D P f n R l.toArray fuel listed'.toArray k (updO σ o.dst v) w) :
    JO D P f n R l.toArray fuel listed k σ w i :=
  JO.does (Φ := fun u w' => u = v ∧ w' = w) hi hl hg (Does.of_run hr ⟨rfl, rfl⟩) fun _ _ ⟨hu, hw⟩ => by rw [hu, hw]; exact h
theorem JA.done {fuel : Nat} {listed : List Bool} (hr : Region.ready .any ops listed.toArray = []) (h : J D P f n R k σ w) : JA D P f n R ops fuel listed.toArray k σ w :=
  fun a ha => wpAny_done hr ⟨rfl, ha.size, ha.defers, h a ha⟩ fuel
def JQ (D : List Deferred) (P : Program) (f : Fr) (n : Nat) (R : Ending → World → Prop) (ops : Array Oper) (C : World → Prop) (l : List Oper) (k : List Item) (σ : Env) : Prop :=
  ∀ a, Ag D n σ a → wpQuiet P ops C (fun a' => a'.tmps.size = n ∧ a'.defers = D ∧ ∀ w', C w' → Jk P f k R a' w') l a
theorem quiet_mono' (C : World → Prop) (ops : Array Oper) : ∀ (l : List Oper) (a : Act), wpQuiet P ops C (fun a' => a'.tmps.size = n ∧ a'.defers = D ∧ ∀ w', C w' → Jk P f k R a' w') l a →
    wpQuiet P ops C (fun a' => ∀ w', C w' → Qk D P f n R k .normal a' w') l a := by
  intro l
  induction l with
  | nil => intro a h w' hw'; exact ⟨rfl, h.1, h.2.1, h.2.2 w' hw'⟩
  | cons o l ih =>
    intro a h
    simp only [wpQuiet] at h ⊢
    split
    · rename_i hw
      rw [if_pos hw] at h
      exact Oper.quiet_mono (fun a => ih a) h
    · rename_i hw
      rw [if_neg hw] at h
      exact ih _ h
theorem J.quiet {id : Nat} {l : List Oper} (C : World → Prop) (hm : P.follows .mixedOrders = true) (hB : Region.lexB .any l.toArray = true) (hC : ∀ w', Same w w' → C w')
    (h : JQ D P f n R l.toArray C l k σ) (hp : f.plain l = true := by exact rfl) : J D P f n R (.code (.region id l.toArray true) :: k) σ w :=
  J.anyof hm (fun a ha => by
    simp only [Region.lexB, Bool.and_eq_true] at hB
    refine wpAny_of_quiet (Q := fun a' => ∀ w', C w' → Qk D P f n R k .normal a' w') (fun _ w' hw' h => h w' hw') _ _ _ _ (hC _ ⟨rfl, rfl, rfl, rfl⟩) ?_
    have := wpAnyQ_lex (C := C) (md := .any) hB.1 l.toArray.toList 0 (Array.replicate l.toArray.size false) a (by simp) (by simpa using hB.2) (by
      have := h a ha
      simpa using quiet_mono' C l.toArray l a this)
    simpa using this) hp
theorem JQ.nil {C : World → Prop} (h : ∀ w, C w → J D P f n R k σ w) : JQ D P f n R ops C [] k σ :=
  fun a ha => ⟨ha.size, ha.defers, fun w hw => h w hw a ha⟩
theorem JQ.go {C : World → Prop} {v : Value} (hg : GOk n σ ops o.guard) (hr : ∀ w, C w → Runs P (ev n σ) o w v) (h : JQ D P f n R ops C rest k (updO σ o.dst v)) : JQ D P f n R ops C (o :: rest) k σ := by
  intro a ha
  have hy : yielded ops a.tmps = yieldE n σ ops := funext (ha.yields ops)
  simp only [wpQuiet, hy, hg.wanted, if_true]
  refine ⟨v, fun w hw => ?_, h _ (ha.put _ _)⟩
  unfold Oper.quietAt
  rw [ha.eval, hr w hw]
  exact ⟨rfl, rfl⟩
theorem JQ.call {C : World → Prop} {v : Value} {g : FuncId} {l : List Value} (hg : GOk n σ ops o.guard) (hr : ∀ w, C w → (execOp (ev n σ) o).run P w = .ok (.enter g l.toArray) w)
    (hc : ∀ w, C w → Ret P g l w fun u w' => u = v ∧ C w') (h : JQ D P f n R ops C rest k (updO σ o.dst v)) : JQ D P f n R ops C (o :: rest) k σ := by
  intro a ha
  have hy : yielded ops a.tmps = yieldE n σ ops := funext (ha.yields ops)
  simp only [wpQuiet, hy, hg.wanted, if_true]
  refine ⟨v, fun w hw => ?_, h _ (ha.put _ _)⟩
  unfold Oper.quietAt
  rw [ha.eval, hr w hw]
  exact ⟨rfl, Calls.mono (hc w hw) fun e w' ⟨u, he, hu, hC⟩ => ⟨by rw [he, hu], hC⟩⟩
theorem JQ.no {C : World → Prop} (hg : GNo n σ ops o.guard) (h : JQ D P f n R ops C rest k (updO σ o.dst undef)) : JQ D P f n R ops C (o :: rest) k σ := by
  intro a ha
  have hy : yielded ops a.tmps = yieldE n σ ops := funext (ha.yields ops)
  simp only [wpQuiet, hy, hg.unwanted, if_false, Bool.false_eq_true]
  exact h _ (ha.put _ _)
theorem JQ.split {C : World → Prop} {l : List Oper} (b : Bool) (ht : b = true → JQ D P f n R ops C l k σ) (hf : b = false → JQ D P f n R ops C l k σ) : JQ D P f n R ops C l k σ := by
  cases b with
  | true => exact ht rfl
  | false => exact hf rfl
end

section
variable {P : Program} {f : Fr} {n : Nat} {R : Ending → World → Prop} {k : List Item} {σ : Env} {w : World} {ops : Array Oper} {rest : List Oper} {d : Option Tmp} {op : Op} {ty : TypeId} {pos : String} {af : Array Edge} {v : Value}
/-! An operation without a guard: the same rules under shorter names. -/
theorem JL.g (hr : Runs P (ev n σ) ⟨d, op, ty, pos, af, none⟩ w v) (h : JL D P f n R ops rest k (updO σ d v) w) : JL D P f n R ops (⟨d, op, ty, pos, af, none⟩ :: rest) k σ w := JL.go trivial hr h
theorem JL.e {Φ : Value → World → Prop} (hd : Does P (ev n σ) ⟨d, op, ty, pos, af, none⟩ w Φ) (h : ∀ v w', Φ v w' → JL D P f n R ops rest k (updO σ d v) w') : JL D P f n R ops (⟨d, op, ty, pos, af, none⟩ :: rest) k σ w := JL.does trivial hd h
theorem JQ.g {C : World → Prop} (hr : ∀ w, C w → Runs P (ev n σ) ⟨d, op, ty, pos, af, none⟩ w v) (h : JQ D P f n R ops C rest k (updO σ d v)) : JQ D P f n R ops C (⟨d, op, ty, pos, af, none⟩ :: rest) k σ := JQ.go trivial hr h
end
end Go.Eng
namespace Go.Eng
open Go
variable {D : List Deferred}
abbrev Seg := List (Nat × Obj)
def cel (l : List Value) (T : TypeId) : Obj := .cells l.toArray T (0, 0)
structure Hp (w0 w : World) (L : List Seg) : Prop where
  os : w.os = w0.os
  tape : w.tape = w0.tape
  output : w.output = w0.output
  size : w0.heap.size ≤ w.heap.size
  nd : (L.flatten.map Prod.fst).Nodup
  mem : ∀ e, e ∈ L.flatten → w.heap[e.1]? = some e.2
section
variable {w0 w w' : World} {L : List Seg} {s : Seg} {b : Nat} {o o' : Obj}
theorem Hp.same (h : Hp w0 w L) (hs : Same w w') : Hp w0 w' L :=
  ⟨hs.os.trans h.os, hs.tape.trans h.tape, hs.output.trans h.output, by rw [hs.heap]; exact h.size, h.nd, fun e he => by rw [hs.heap]; exact h.mem e he⟩
theorem mem_flatten_of_get {i : Nat} {e : Nat × Obj} (hi : L[i]? = some s) (he : e ∈ s) : e ∈ L.flatten :=
  List.mem_flatten.2 ⟨s, List.mem_of_getElem? hi, he⟩
theorem Hp.get (h : Hp w0 w L) {i : Nat} {e : Nat × Obj} (hi : L[i]? = some s) (he : e ∈ s) : w.heap[e.1]? = some e.2 := h.mem e (mem_flatten_of_get hi he)
theorem Hp.get1 (h : Hp w0 w L) {i : Nat} (hi : L[i]? = some [(b, o)]) : w.heap[b]? = some o := h.get hi (List.mem_singleton.2 rfl)
theorem Hp.lt (h : Hp w0 w L) {e : Nat × Obj} (he : e ∈ L.flatten) : e.1 < w.heap.size := by
  have := h.mem e he
  rcases Nat.lt_or_ge e.1 w.heap.size with h' | h'
  · exact h'
  · rw [Array.getElem?_eq_none h'] at this; cases this
theorem Hp.alloc (h : Hp w0 w L) (o : Obj) : Hp w0 (w.alloc o) ([(w.heap.size, o)] :: L) := by
  refine ⟨h.os, h.tape, h.output, by simp; have := h.size; omega, ?_, ?_⟩
  · simp only [List.flatten_cons, List.cons_append, List.nil_append, List.map_cons, List.nodup_cons]
    refine ⟨?_, h.nd⟩
    intro hm
    obtain ⟨e, he, heq⟩ := List.mem_map.1 hm
    have := h.lt he
    omega
  · intro e he
    simp only [List.flatten_cons, List.cons_append, List.nil_append, List.mem_cons] at he
    rcases he with rfl | he
    · show (w.heap.push o)[w.heap.size]? = some o
      simp
    · have := h.lt he
      rw [RowKit.Below.heap_alloc _ _ _ this]
      exact h.mem e he
theorem perm_of_flatten {L L' : List Seg} (h : Hp w0 w L) (hp : L.flatten.Perm L'.flatten) : Hp w0 w L' :=
  ⟨h.os, h.tape, h.output, h.size, (hp.map Prod.fst).nodup_iff.1 h.nd, fun e he => h.mem e (hp.mem_iff.2 he)⟩
theorem get_perm : ∀ {L : List Seg} {i : Nat} {s : Seg}, L[i]? = some s → L.flatten.Perm (s :: L.eraseIdx i).flatten
  | t :: L, 0, s, h => by
    have : t = s := by simpa using h
    subst this
    exact List.Perm.refl _
  | t :: L, i + 1, s, h => by
    have ih := get_perm (L := L) (i := i) (s := s) (by simpa using h)
    simp only [List.flatten_cons, List.eraseIdx_cons_succ] at ih ⊢
    refine (ih.append_left t).trans ?_
    rw [← List.append_assoc, ← List.append_assoc]
    exact List.Perm.append_right _ List.perm_append_comm
theorem Hp.pull (h : Hp w0 w L) (i : Nat) (hi : L[i]? = some s) : Hp w0 w (s :: L.eraseIdx i) := perm_of_flatten h (get_perm hi)
theorem Hp.drop (h : Hp w0 w (s :: L)) : Hp w0 w L :=
  ⟨h.os, h.tape, h.output, h.size, by
    have := h.nd
    simp only [List.flatten_cons, List.map_append] at this
    exact (List.nodup_append.1 this).2.1, fun e he => h.mem e (by simp only [List.flatten_cons, List.mem_append]; exact .inr he)⟩
theorem Hp.nil (h : Hp w0 w L) : Hp w0 w ([] :: L) := perm_of_flatten h (by simp)
theorem Hp.join {t : Seg} (h : Hp w0 w (s :: t :: L)) : Hp w0 w ((s ++ t) :: L) := perm_of_flatten h (by simp)
theorem Hp.split {t : Seg} (h : Hp w0 w ((s ++ t) :: L)) : Hp w0 w (s :: t :: L) := perm_of_flatten h (by simp)
theorem set_flatten {L : List Seg} {i : Nat} {b : Nat} {o o' : Obj} (hi : L[i]? = some [(b, o)]) :
    ((L.set i [(b, o')]).flatten.map Prod.fst) = L.flatten.map Prod.fst := by
  induction L generalizing i with
  | nil => simp at hi
  | cons t L ih =>
    cases i with
    | zero =>
      have : t = [(b, o)] := by simpa using hi
      subst this
      simp
    | succ i => simp only [List.set_cons_succ, List.flatten_cons, List.map_append, ih (by simpa using hi)]
theorem mem_set_flatten {L : List Seg} {i : Nat} {b : Nat} {o o' : Obj} (hnd : (L.flatten.map Prod.fst).Nodup) (hi : L[i]? = some [(b, o)]) {e : Nat × Obj}
    (he : e ∈ (L.set i [(b, o')]).flatten) : e = (b, o') ∨ (e ∈ L.flatten ∧ e.1 ≠ b) := by
  induction L generalizing i with
  | nil => simp at hi
  | cons t L ih =>
    cases i with
    | zero =>
      have : t = [(b, o)] := by simpa using hi
      subst this
      simp only [List.set_cons_zero, List.flatten_cons, List.cons_append, List.nil_append, List.mem_cons] at he
      rcases he with rfl | he
      · exact .inl rfl
      · refine .inr ⟨by simp [he], fun hb => ?_⟩
        simp only [List.flatten_cons, List.cons_append, List.nil_append, List.map_cons, List.nodup_cons] at hnd
        exact hnd.1 (hb ▸ List.mem_map_of_mem he)
    | succ i =>
      have hi' : L[i]? = some [(b, o)] := by simpa using hi
      simp only [List.set_cons_succ, List.flatten_cons, List.mem_append] at he
      simp only [List.flatten_cons, List.map_append, List.nodup_append] at hnd
      rcases he with he | he
      · refine .inr ⟨by simp [he], fun hb => ?_⟩
        have h1 : e.1 ∈ t.map Prod.fst := List.mem_map_of_mem he
        have h2 : b ∈ L.flatten.map Prod.fst := List.mem_map.2 ⟨(b, o), mem_flatten_of_get hi' (List.mem_singleton.2 rfl), rfl⟩
        exact hnd.2.2 _ h1 _ h2 hb
      · rcases ih hnd.2.1 hi' he with h | h
        · exact .inl h
        · exact .inr ⟨by simp [h.1], h.2⟩
theorem Hp.set (h : Hp w0 w L) {i : Nat} (hi : L[i]? = some [(b, o)]) {heap' : Array Obj} (hs : heap'.size = w.heap.size) (hb : heap'[b]? = some o') (hne : ∀ c, c ≠ b → heap'[c]? = w.heap[c]?) :
    Hp w0 { w with heap := heap' } (L.set i [(b, o')]) := by
  refine ⟨h.os, h.tape, h.output, by show w0.heap.size ≤ heap'.size; rw [hs]; exact h.size, ?_, fun e he => ?_⟩
  · rw [set_flatten hi]; exact h.nd
  · rcases mem_set_flatten h.nd hi he with rfl | ⟨he, hne'⟩
    · exact hb
    · show heap'[e.1]? = _
      rw [hne _ hne']; exact h.mem e he
theorem Hp.setCell (h : Hp w0 w L) {i : Nat} {l : List Value} {T : TypeId} (hi : L[i]? = some [(b, cel l T)]) (off : Nat) (v : Value) :
    Hp w0 (w.setCell ⟨b, off, none⟩ v) (L.set i [(b, cel (l.set off v) T)]) := by
  have hb := h.get1 hi
  refine h.set hi (heap' := (w.setCell ⟨b, off, none⟩ v).heap) (by simp [World.setCell]) ?_ (fun c hc => RowKit.Below.heap_setCell _ _ _ _ hc)
  simp only [World.setCell, Array.getElem?_modify, if_true, hb, cel]
  simp
theorem Hp.cell (h : Hp w0 w L) {i : Nat} {l : List Value} {T : TypeId} (hi : L[i]? = some [(b, cel l T)]) (off : Nat) : w.cell? ⟨b, off, none⟩ = l[off]? := by
  have hb := h.get1 hi
  simp [World.cell?, hb, cel]
theorem Hp.frozen (h : Hp w0 w L) {i : Nat} {l : List Value} {T : TypeId} (hi : L[i]? = some [(b, cel l T)]) (off : Nat) : w.frozen? ⟨b, off, none⟩ = false := by
  have hb := h.get1 hi
  simp [World.frozen?, hb, cel]
def allOf (w : World) : Seg := w.heap.toList.zipIdx.map fun p => (p.2, p.1)
theorem Hp.start (w : World) : Hp w w [allOf w] := by
  refine ⟨rfl, rfl, rfl, Nat.le_refl _, ?_, fun e he => ?_⟩
  · simp only [List.flatten_cons, List.flatten_nil, List.append_nil, allOf, List.map_map]
    have : (w.heap.toList.zipIdx.map (Prod.fst ∘ fun p : Obj × Nat => (p.2, p.1))) = List.range' 0 w.heap.toList.length := by
      rw [← List.zipIdx_map_snd 0 w.heap.toList]; rfl
    rw [this]
    exact List.nodup_range'
  · simp only [List.flatten_cons, List.flatten_nil, List.append_nil, allOf, List.mem_map] at he
    obtain ⟨⟨o, i⟩, hm, rfl⟩ := he
    have := List.mem_zipIdx_iff_getElem?.1 hm
    simpa using this
theorem allOf_mem {w : World} {b : Nat} {o : Obj} (h : w.heap[b]? = some o) : (b, o) ∈ allOf w :=
  List.mem_map.2 ⟨(o, b), List.mem_zipIdx_iff_getElem?.2 (by simpa using h), rfl⟩
theorem Hp.below (h : Hp w0 w L) {i : Nat} (hi : L[i]? = some (allOf w0)) : RowKit.Below w0.heap.size w0 w := by
  refine ⟨h.os, h.tape, h.output, h.size, fun k hk => ?_⟩
  have hk' : w0.heap[k]? = some w0.heap[k] := Array.getElem?_eq_getElem hk
  rw [hk']
  exact h.get hi (allOf_mem hk')
end
end Go.Eng
namespace Go.Eng
open Go
variable {D : List Deferred}
def szOf (P : Program) (t : TypeId) : Option Nat := (P.info? t).map (·.size)
def oneOf (P : Program) (t : TypeId) : Bool :=
  match P.underlying t with
  | some (.struct _) | some (.array _ _) | none => false
  | _ => (P.info? t).map (·.size) == some 1
def aggOf (P : Program) (t : TypeId) : Option Nat :=
  match P.underlying t with
  | some (.struct _) | some (.array _ _) => (P.info? t).map (·.size)
  | _ => none
def fieldOff (P : Program) (s : TypeId) (i : Nat) : Option Nat :=
  match P.underlying s with
  | some (.struct fs) =>
    match fs[i]? with
    | some f => match P.info? f.type with
      | some j => if j.size = 0 then none else some f.offset
      | none => none
    | none => none
  | _ => none
def sliceOf (P : Program) (t : TypeId) : Option (TypeId × Nat) :=
  match P.underlying t with
  | some (.slice e) => (P.info? e).map fun i => (e, i.size)
  | _ => none
def arrayOf (P : Program) (t : TypeId) : Option (Nat × TypeId × Nat) :=
  match P.underlying t with
  | some (.array n e) => (P.info? e).map fun i => (n, e, i.size)
  | _ => none
def kindOf (P : Program) (t : TypeId) : Option IntKind :=
  match P.underlying t with
  | some (.int k) => some k
  | _ => none
def isCell : Value → Bool
  | .agg _ | .tuple _ => false
  | _ => true
def readN (l : List Value) (off sz : Nat) : Option (List Value) := let r := (l.drop off).take sz; if r.length = sz then some r else none
def setN : List Value → Nat → List Value → List Value
  | l, _, [] => l
  | l, o, v :: vs => setN (l.set o v) (o + 1) vs
section
variable {P : Program} {ρ : Operand → Value} {w w0 : World} {L : List Seg} {d : Option Tmp} {ty : TypeId} {pos : String} {af : Array Edge} {g : Option (Nat × Bool)} {x y : Operand}
theorem RX.move : Runs P ρ ⟨d, .move x, ty, pos, af, g⟩ w (ρ x) := rfl
theorem RX.assign : Runs P ρ ⟨d, .assign x, ty, pos, af, g⟩ w (ρ x) := rfl
theorem RX.movev {v : Value} (h : ρ x = v) : Runs P ρ ⟨d, .move x, ty, pos, af, g⟩ w v := by subst h; rfl
theorem RX.assignv {v : Value} (h : ρ x = v) : Runs P ρ ⟨d, .assign x, ty, pos, af, g⟩ w v := by subst h; rfl
theorem RX.pick {c : Operand} {b : Bool} (hc : ρ c = .bool b) : Runs P ρ ⟨d, .pick c x y, ty, pos, af, g⟩ w (if b then ρ x else ρ y) := by
  unfold Runs; simp [execOp, hc, asBool]
theorem RX.pick_t {c : Operand} {b : Bool} (hc : ρ c = .bool b) (hb : b = true) : Runs P ρ ⟨d, .pick c x y, ty, pos, af, g⟩ w (ρ x) := by
  have := RX.pick (P := P) (w := w) (d := d) (ty := ty) (pos := pos) (af := af) (g := g) (x := x) (y := y) hc
  rwa [if_pos hb] at this
theorem RX.pick_f {c : Operand} {b : Bool} (hc : ρ c = .bool b) (hb : b = false) : Runs P ρ ⟨d, .pick c x y, ty, pos, af, g⟩ w (ρ y) := by
  have := RX.pick (P := P) (w := w) (d := d) (ty := ty) (pos := pos) (af := af) (g := g) (x := x) (y := y) hc
  rwa [if_neg (by simp [hb])] at this
theorem RX.extract {i : Nat} {vs : List Value} {v : Value} (hx : ρ x = .tuple vs.toArray) (hv : vs[i]? = some v) : Runs P ρ ⟨d, .extract x i, ty, pos, af, g⟩ w v := by
  unfold Runs; simp [execOp, hx, Instr.extract, hv]
theorem RX.nilCheck {a : Addr} (hx : ρ x = .pointer (some a)) : Runs P ρ ⟨d, .nilCheck x, ty, pos, af, g⟩ w (.pointer (some a)) := by
  unfold Runs; simp [execOp, hx]
theorem RX.makeFunc {fn : Fn} {f c : List Operand} {fv cv : List Value} (hf : f.map ρ = fv) (hc : c.map ρ = cv) :
    Runs P ρ ⟨d, .makeFunc fn f.toArray c.toArray, ty, pos, af, g⟩ w (.func fn fv.toArray cv.toArray) := by
  unfold Runs; simp [execOp, Instr.makeFunc, hf, hc]
theorem RX.not {b : Bool} {t : TypeId} (hx : ρ x = .bool b) : Runs P ρ ⟨d, .unOp .not t x, ty, pos, af, g⟩ w (.bool (!b)) := by
  unfold Runs; simp [execOp, hx, Op.unary]
section ints
variable {k : IntKind} {a b r : Int} {t t' : TypeId}
theorem RX.add (hx : ρ x = .int k a) (hy : ρ y = .int k b) (hr : k.wrap (a + b) = r) : Runs P ρ ⟨d, .binOp .add t x y t', ty, pos, af, g⟩ w (.int k r) := by
  subst hr; unfold Runs; simp [execOp, hx, hy, eqGuard_add, binOp_add, Op.intArith]
theorem RX.sub (hx : ρ x = .int k a) (hy : ρ y = .int k b) (hr : k.wrap (a - b) = r) : Runs P ρ ⟨d, .binOp .sub t x y t', ty, pos, af, g⟩ w (.int k r) := by
  subst hr; unfold Runs; simp [execOp, hx, hy, eqGuard_sub, binOp_sub, Op.intArith]
theorem RX.mul (hx : ρ x = .int k a) (hy : ρ y = .int k b) (hr : k.wrap (a * b) = r) : Runs P ρ ⟨d, .binOp .mul t x y t', ty, pos, af, g⟩ w (.int k r) := by
  subst hr; unfold Runs; simp [execOp, hx, hy, eqGuard_mul, binOp_mul, Op.intArith]
theorem RX.quo (hx : ρ x = .int k a) (hy : ρ y = .int k b) (hb : b ≠ 0) (hr : k.wrap (a.tdiv b) = r) : Runs P ρ ⟨d, .binOp .quo t x y t', ty, pos, af, g⟩ w (.int k r) := by
  subst hr; unfold Runs; simp [execOp, hx, hy, eqGuard_quo, binOp_quo, Op.intDiv, hb]
theorem RX.rem (hx : ρ x = .int k a) (hy : ρ y = .int k b) (hb : b ≠ 0) (hr : a.tmod b = r) : Runs P ρ ⟨d, .binOp .rem t x y t', ty, pos, af, g⟩ w (.int k r) := by
  subst hr; unfold Runs; simp [execOp, hx, hy, eqGuard_rem, binOp_rem, Op.intDiv, hb]
theorem RX.and (hx : ρ x = .int k a) (hy : ρ y = .int k b) (hr : k.wrap ((BitVec.ofInt k.bits a &&& BitVec.ofInt k.bits b).toNat) = r) : Runs P ρ ⟨d, .binOp .and t x y t', ty, pos, af, g⟩ w (.int k r) := by
  subst hr; unfold Runs; simp [execOp, hx, hy, eqGuard_and, binOp_and, Op.intBits]
theorem RX.or (hx : ρ x = .int k a) (hy : ρ y = .int k b) (hr : k.wrap ((BitVec.ofInt k.bits a ||| BitVec.ofInt k.bits b).toNat) = r) : Runs P ρ ⟨d, .binOp .or t x y t', ty, pos, af, g⟩ w (.int k r) := by
  subst hr; unfold Runs; simp [execOp, hx, hy, eqGuard_or, binOp_or, Op.intBits]
theorem RX.shr {k' : IntKind} (hx : ρ x = .int k a) (hy : ρ y = .int k' b) (hb : 0 ≤ b) (hr : a / (2 ^ (min b.toNat k.bits) : Int) = r) : Runs P ρ ⟨d, .binOp .shr t x y t', ty, pos, af, g⟩ w (.int k r) := by
  have : a.fdiv (2 ^ (min b.toNat k.bits) : Int) = r := by rw [Int.fdiv_eq_ediv_of_nonneg _ (by exact Int.le_of_lt (Int.pow_pos (by decide)))]; exact hr
  subst this; unfold Runs; simp [execOp, hx, hy, eqGuard_shr, binOp_shr, Op.shift, Int.not_lt.2 hb]
theorem RX.eq (hx : ρ x = .int k a) (hy : ρ y = .int k b) : Runs P ρ ⟨d, .binOp .eql t x y t', ty, pos, af, g⟩ w (.bool (decide (a = b))) := by
  unfold Runs; simp only [execOp, hx, hy, eqGuard_at_int, binOp_eql]; rfl
theorem RX.ne (hx : ρ x = .int k a) (hy : ρ y = .int k b) : Runs P ρ ⟨d, .binOp .neq t x y t', ty, pos, af, g⟩ w (.bool (decide (¬ a = b))) := by
  unfold Runs; simp only [execOp, hx, hy, eqGuard_at_int, binOp_neq]
  have : (a != b) = decide (¬ a = b) := by by_cases h : a = b <;> simp [h]
  rw [this]; rfl
theorem RX.lt (hx : ρ x = .int k a) (hy : ρ y = .int k b) : Runs P ρ ⟨d, .binOp .lss t x y t', ty, pos, af, g⟩ w (.bool (decide (a < b))) := by
  unfold Runs; simp only [execOp, hx, hy, eqGuard_at_int, binOp_lss]; rfl
theorem RX.le (hx : ρ x = .int k a) (hy : ρ y = .int k b) : Runs P ρ ⟨d, .binOp .leq t x y t', ty, pos, af, g⟩ w (.bool (decide (a ≤ b))) := by
  unfold Runs; simp only [execOp, hx, hy, eqGuard_at_int, binOp_leq]; rfl
theorem RX.gt (hx : ρ x = .int k a) (hy : ρ y = .int k b) : Runs P ρ ⟨d, .binOp .gtr t x y t', ty, pos, af, g⟩ w (.bool (decide (b < a))) := by
  unfold Runs; simp only [execOp, hx, hy, eqGuard_at_int, binOp_gtr]; rfl
theorem RX.ge (hx : ρ x = .int k a) (hy : ρ y = .int k b) : Runs P ρ ⟨d, .binOp .geq t x y t', ty, pos, af, g⟩ w (.bool (decide (b ≤ a))) := by
  unfold Runs; simp only [execOp, hx, hy, eqGuard_at_int, binOp_geq]; rfl
theorem RX.conv {src dst : TypeId} {k' : IntKind} (hx : ρ x = .int k a) (hs : (kindOf P src).isSome = true) (hd : kindOf P dst = some k') (hr : k'.wrap a = r) :
    Runs P ρ ⟨d, .convert src dst x, ty, pos, af, g⟩ w (.int k' r) := by
  subst hr
  unfold kindOf at hs hd
  have h1 : ∃ k2, P.underlying src = some (.int k2) := by
    revert hs; split
    · rename_i k2 h; exact fun _ => ⟨k2, h⟩
    · intro h; cases h
  have h2 : P.underlying dst = some (.int k') := by
    revert hd; split
    · rename_i k2 h; intro e; rw [h, Option.some.inj e]
    · intro h; cases h
  obtain ⟨k2, h1⟩ := h1
  unfold Runs
  simp [execOp, hx, convert, run_underlying h1, run_underlying h2, Conv.intToInt]
theorem RX.neg (hx : ρ x = .int k a) (hr : k.wrap (0 - a) = r) : Runs P ρ ⟨d, .unOp .neg t x, ty, pos, af, g⟩ w (.int k r) := by
  subst hr; unfold Runs; simp [execOp, hx, Op.unary, Op.intArith]
end ints
theorem fieldOff_run {s : TypeId} {i n : Nat} (h : fieldOff P s i = some n) {b o : Nat} :
    (Instr.fieldAt s (.pointer (some ⟨b, o, none⟩)) i).run P w = .ok (.pointer (some ⟨b, o + n, none⟩)) w := by
  unfold fieldOff at h
  split at h
  · rename_i fs hs
    split at h
    · rename_i f hf
      split at h
      · rename_i j hj
        split at h
        · cases h
        · rename_i hz
          have := Option.some.inj h
          subst this
          simp [Instr.fieldAt, run_underlying hs, hf, Instr.sureAddr, fieldPlace, sizeOf, typeInfo, hj, hz, Addr.add_lit]
      · cases h
    · cases h
  · cases h
theorem RX.fieldAddr {s : TypeId} {i n b o o' : Nat} (hx : ρ x = .pointer (some ⟨b, o, none⟩)) (hf : fieldOff P s i = some n) (ho : o + n = o') :
    Runs P ρ ⟨d, .fieldAddr s x i, ty, pos, af, g⟩ w (.pointer (some ⟨b, o', none⟩)) := by
  subst ho; unfold Runs; simp [execOp, hx, fieldOff_run hf]
theorem sliceOf_run {t e : TypeId} {sz : Nat} (h : sliceOf P t = some (e, sz)) : P.underlying t = some (.slice e) ∧ ∃ i, P.info? e = some i ∧ i.size = sz := by
  unfold sliceOf at h
  split at h
  · rename_i e2 hu
    cases hi : P.info? e2 with
    | none => simp [hi] at h
    | some i =>
      simp only [hi, Option.map_some, Option.some.injEq, Prod.mk.injEq] at h
      obtain ⟨rfl, rfl⟩ := h
      exact ⟨hu, i, hi, rfl⟩
  · cases h
theorem RX.indexAddr {t e : TypeId} {sz b o n cap o' : Nat} {k : IntKind} {i : Int} (hx : ρ x = .slice (some ⟨b, o, none⟩) n cap) (hi : ρ y = .int k i) (ht : sliceOf P t = some (e, sz))
    (h0 : 0 ≤ i) (h1 : i < (n : Int)) (ho : o + i.toNat * sz = o') : Runs P ρ ⟨d, .indexAddr t x y, ty, pos, af, g⟩ w (.pointer (some ⟨b, o', none⟩)) := by
  subst ho
  obtain ⟨hu, inf, hinf, hsz⟩ := sliceOf_run ht
  unfold Runs
  simp [execOp, hx, hi, Instr.indexAt, asIntOf, run_underlying hu, h0, h1, sizeOf, typeInfo, hinf, hsz, Addr.add_lit]
theorem RX.len_slice {t : TypeId} {p : Option Addr} {n cap : Nat} {r : Int} (hx : ρ x = .slice p n cap) (ht : (sliceOf P t).isSome = true) (hr : (n : Int) = r) :
    Runs P ρ ⟨d, .call { callee := .builtin .len, args := #[x], argTypes := #[t] }, ty, pos, af, g⟩ w (.int .i64 r) := by
  subst hr
  obtain ⟨⟨e, sz⟩, hs⟩ := Option.isSome_iff_exists.1 ht
  obtain ⟨hu, _⟩ := sliceOf_run hs
  unfold Runs
  simp [execOp, resolve, invoke, builtin, Builtin.len_, hx, run_underlying hu, goInt]
theorem RX.len_string {t : TypeId} {s : ByteArray} {r : Int} (hx : ρ x = .string s) (ht : P.underlying t = some .string) (hr : (s.size : Int) = r) :
    Runs P ρ ⟨d, .call { callee := .builtin .len, args := #[x], argTypes := #[t] }, ty, pos, af, g⟩ w (.int .i64 r) := by
  subst hr
  unfold Runs
  simp [execOp, resolve, invoke, builtin, Builtin.len_, hx, run_underlying ht, goInt]
theorem RX.load {t T : TypeId} {b o i : Nat} {l : List Value} {v : Value} (H : Hp w0 w L) (hx : ρ x = .pointer (some ⟨b, o, none⟩)) (hi : L[i]? = some [(b, cel l T)]) (hv : l[o]? = some v)
    (ht : oneOf P t = true) : Runs P ρ ⟨d, .load t x, ty, pos, af, g⟩ w v := by
  have hc := H.cell hi o
  rw [hv] at hc
  unfold Runs
  unfold oneOf at ht
  have hu : ∃ u, P.underlying t = some u ∧ (∀ fs, u ≠ .struct fs) ∧ (∀ n e, u ≠ .array n e) := by
    revert ht
    split
    · intro h; cases h
    · intro h; cases h
    · intro h; cases h
    · rename_i h1 h2 h3
      intro _
      cases hu : P.underlying t with
      | none => exact absurd hu h3
      | some u => exact ⟨u, rfl, fun fs e => h1 fs (by rw [hu, e]), fun n e he => h2 n e (by rw [hu, he])⟩
  obtain ⟨u, hu, h1, h2⟩ := hu
  have hagg : (isAgg t).run P w = .ok false w := by
    unfold isAgg
    simp only [Sem.run_bind, run_underlying hu, Result.andThen_ok]
    cases u <;> first | rfl | exact absurd rfl (h1 _) | exact absurd rfl (h2 _ _)
  simp [execOp, hx, Instr.loadAt, Instr.sureAddr, loadVar, hagg, hc]
theorem szOf_run {t : TypeId} {n : Nat} (h : szOf P t = some n) : (sizeOf t).run P w = .ok n w := by
  unfold szOf at h
  cases hi : P.info? t with
  | none => simp [hi] at h
  | some i =>
    simp [hi] at h
    simp [sizeOf, typeInfo, hi, h]
theorem EX.store {t T : TypeId} {b o i : Nat} {l l' : List Value} {v : Value} {L' : List Seg} (H : Hp w0 w L) (hx : ρ x = .pointer (some ⟨b, o, none⟩)) (hy : ρ y = v) (hi : L[i]? = some [(b, cel l T)])
    (hv : isCell v = true) (ho : o < l.length) (ht : szOf P t = some 1) (hl : l.set o v = l') (hL : L.set i [(b, cel l' T)] = L') :
    Does P ρ ⟨d, .store t x y, ty, pos, af, g⟩ w fun _ w' => Hp w0 w' L' := by
  subst hl hL
  have hc := H.cell hi o
  rw [List.getElem?_eq_getElem ho] at hc
  have hfz := H.frozen hi o
  have hcells : v.cells = #[v] := by cases v <;> first | rfl | cases hv
  refine Does.of_skip (w' := w.setCell ⟨b, o, none⟩ v) ?_ (H.setCell hi o v)
  have hst : (Go.store ⟨b, o, none⟩ v).run P w = .ok () (w.setCell ⟨b, o, none⟩ v) := by
    rw [run_store P w ⟨b, o, none⟩ v .plain (by cases v <;> first | rfl | cases hv)]
    rw [hc, hfz]; rfl
  simp [execOp, hx, hy, Instr.storeAt, Instr.sureAddr, storeVar, szOf_run ht, hcells, storeCells, Addr.add_zero', hst]
theorem EX.box {t : TypeId} {v : Value} {l : List Value} (H : Hp w0 w L) (hx : ρ x = v) (hl : v.cells = l.toArray) :
    Does P ρ ⟨d, .box t x, ty, pos, af, g⟩ w fun u w' => ∃ b, u = .pointer (some ⟨b, 0, none⟩) ∧ Hp w0 w' ([(b, cel l t)] :: L) := by
  refine Does.of_run (v := .pointer (some ⟨w.heap.size, 0, none⟩)) (w' := w.alloc (cel l t)) ?_ ⟨_, rfl, H.alloc _⟩
  simp only [execOp, hx, Instr.box, newVar, newRow, hl]
  rfl
theorem EX.alloc {t : TypeId} {v : Value} {l : List Value} (H : Hp w0 w L) (hz : (P.info? t).bind (·.zero) = some v) (hl : v.cells = l.toArray) :
    Does P ρ ⟨d, .alloc t, ty, pos, af, g⟩ w fun u w' => ∃ b, u = .pointer (some ⟨b, 0, none⟩) ∧ Hp w0 w' ([(b, cel l t)] :: L) := by
  cases hi : P.info? t with
  | none => simp [hi] at hz
  | some i =>
    simp only [hi, Option.bind_some] at hz
    refine Does.of_run (v := .pointer (some ⟨w.heap.size, 0, none⟩)) (w' := w.alloc (cel l t)) ?_ ⟨_, rfl, H.alloc _⟩
    simp only [execOp, Instr.alloc, zeroValue, typeInfo, Sem.run_bind, newVar, newRow]
    have h1 : (program : Sem Program).run P w = .ok P w := rfl
    simp only [h1, Result.andThen_ok, hi, hz, hl, Sem.run_pure]
    rfl
def callable (P : Program) (f : FuncId) : Bool :=
  match P.funcs[f]? with
  | some fn => !(fn.name == "runtime.NumGoroutine") && fn.body.isSome
  | none => false
theorem callFunc_run {f : FuncId} {args : Array Value} (h : callable P f = true) : (callFunc f args).run P w = .ok (.enter f args) w := by
  unfold callable at h
  split at h
  · rename_i fn hf
    simp only [Bool.and_eq_true, Bool.not_eq_true', beq_eq_false_iff_ne, ne_eq] at h
    unfold callFunc
    have h1 : (program : Sem Program).run P w = .ok P w := rfl
    have hb : ¬ fn.body = none := by intro e; rw [e] at h; exact absurd h.2 (by decide)
    simp [h1, hf, h.1, hb]
  · cases h
theorem run_enter {f : FuncId} {as9 : List Operand} {ats : Array TypeId} {l : List Value} (ha : as9.map ρ = l) :
    (execOp ρ ⟨d, .call { callee := .value (.func f), args := as9.toArray, argTypes := ats }, ty, pos, af, g⟩).run P w =
      ((Deferred.ofValue (ρ (.func f)) l.toArray).run P w).andThen fun t w' => (invoke t.target t.args).run P w' := by
  simp only [execOp, resolve, Sem.run_bind, List.map_toArray, ha]
theorem EX.call {f : FuncId} {as9 : List Operand} {ats : Array TypeId} {l : List Value} {Φ : Value → World → Prop} (hρ : ρ (.func f) = .func (.func f) #[] #[]) (hf : callable P f = true) (ha : as9.map ρ = l) (hc : Ret P f l w Φ) :
    Does P ρ ⟨d, .call { callee := .value (.func f), args := as9.toArray, argTypes := ats }, ty, pos, af, g⟩ w Φ := by
  refine Does.of_enter (w' := w) ?_ hc
  rw [run_enter ha, hρ]
  simp [Deferred.ofValue, invoke, callFunc_run hf]
theorem EX.callv {f : FuncId} {c : Operand} {as9 : List Operand} {ats : Array TypeId} {l fv cv args : List Value} {Φ : Value → World → Prop} (hv : ρ c = .func (.func f) fv.toArray cv.toArray) (hf : callable P f = true) (ha : as9.map ρ = l)
    (hl : fv ++ l ++ cv = args) (hc : Ret P f args w Φ) :
    Does P ρ ⟨d, .call { callee := .value c, args := as9.toArray, argTypes := ats }, ty, pos, af, g⟩ w Φ := by
  subst hl
  refine Does.of_enter (w' := w) ?_ hc
  simp only [execOp, resolve, Sem.run_bind, List.map_toArray, ha, hv, Deferred.ofValue, Sem.run_pure, Result.andThen_ok, invoke, List.append_toArray, callFunc_run hf]
theorem run_callq {f : FuncId} {as9 : List Operand} {ats : Array TypeId} {l : List Value} (hρ : ρ (.func f) = .func (.func f) #[] #[]) (hf : callable P f = true) (ha : as9.map ρ = l) :
    (execOp ρ ⟨d, .call { callee := .value (.func f), args := as9.toArray, argTypes := ats }, ty, pos, af, g⟩).run P w = .ok (.enter f l.toArray) w := by
  rw [run_enter ha, hρ]
  simp [Deferred.ofValue, invoke, callFunc_run hf]
end

section
variable {P : Program} {f : Fr} {n : Nat} {R : Ending → World → Prop} {k : List Item} {σ : Env} {w : World} {ops : Array Oper} {rest : List Oper} {d : Option Tmp} {x : Operand} {ty : TypeId} {pos : String} {af : Array Edge}
theorem JL.mi {q : IntKind} {z : Int} (hx : ev n σ x = .int q z) (h : JL D P f n R ops rest k (updO σ d (.int q z)) w) : JL D P f n R ops (⟨d, .move x, ty, pos, af, none⟩ :: rest) k σ w := JL.go trivial (RX.movev hx) h
theorem JL.ms {p : Option Addr} {a b : Nat} (hx : ev n σ x = .slice p a b) (h : JL D P f n R ops rest k (updO σ d (.slice p a b)) w) : JL D P f n R ops (⟨d, .move x, ty, pos, af, none⟩ :: rest) k σ w := JL.go trivial (RX.movev hx) h
theorem JL.mb {b : Bool} (hx : ev n σ x = .bool b) (h : JL D P f n R ops rest k (updO σ d (.bool b)) w) : JL D P f n R ops (⟨d, .move x, ty, pos, af, none⟩ :: rest) k σ w := JL.go trivial (RX.movev hx) h
theorem JL.mp {p : Option Addr} (hx : ev n σ x = .pointer p) (h : JL D P f n R ops rest k (updO σ d (.pointer p)) w) : JL D P f n R ops (⟨d, .move x, ty, pos, af, none⟩ :: rest) k σ w := JL.go trivial (RX.movev hx) h
theorem JL.ai {q : IntKind} {z : Int} (hx : ev n σ x = .int q z) (h : JL D P f n R ops rest k (updO σ d (.int q z)) w) : JL D P f n R ops (⟨d, .assign x, ty, pos, af, none⟩ :: rest) k σ w := JL.go trivial (RX.assignv hx) h
theorem JL.al {p : Option Addr} {a b : Nat} (hx : ev n σ x = .slice p a b) (h : JL D P f n R ops rest k (updO σ d (.slice p a b)) w) : JL D P f n R ops (⟨d, .assign x, ty, pos, af, none⟩ :: rest) k σ w := JL.go trivial (RX.assignv hx) h
theorem JL.ab {b : Bool} (hx : ev n σ x = .bool b) (h : JL D P f n R ops rest k (updO σ d (.bool b)) w) : JL D P f n R ops (⟨d, .assign x, ty, pos, af, none⟩ :: rest) k σ w := JL.go trivial (RX.assignv hx) h
theorem JL.ap {p : Option Addr} (hx : ev n σ x = .pointer p) (h : JL D P f n R ops rest k (updO σ d (.pointer p)) w) : JL D P f n R ops (⟨d, .assign x, ty, pos, af, none⟩ :: rest) k σ w := JL.go trivial (RX.assignv hx) h
end
end Go.Eng
