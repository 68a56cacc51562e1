/- General rules for stepping through a function: no program stands in them. -/
import Derived.Tactics
import Derived.AtR
import Derived.RangeFuncIn
import Derived.RangeFuncLeaves
import Derived.RangeFuncRecord
import Derived.RangeFuncSeq
import Derived.RangeFuncCalls
import Derived.OrdersIn
import Derived.TacticsIn
namespace Go.Eng
open Go
variable {D : List Deferred}

/-- The frame of a call as a function from slots. -/
abbrev Env := Nat → Value
def upd (σ : Env) (d : Nat) (v : Value) : Env := fun t => bif Nat.beq t d then v else σ t
def updO (σ : Env) : Option Tmp → Value → Env
  | some d, v => upd σ d v
  | none, _ => σ
def upds (σ : Env) : List (Nat × Value) → Env
  | [] => σ
  | p :: l => upd (upds σ l) p.1 p.2
def Has (σ : Env) : List (Nat × Value) → Prop
  | [] => True
  | p :: l => σ p.1 = p.2 ∧ Has σ l
def envOf : List Value → Env
  | [], _ => undef
  | v :: _, 0 => v
  | _ :: l, t + 1 => envOf l t
def ev (n : Nat) (σ : Env) : Operand → Value
  | .tmp t => bif Nat.blt t n then σ t else undef
  | .const v => v
  | .global g => .pointer (some ⟨g, 0, none⟩)
  | .func f => .func (.func f) #[] #[]
def evs (n : Nat) (σ : Env) : List Operand → List Value
  | [] => []
  | x :: l => ev n σ x :: evs n σ l

structure Ag (D : List Deferred) (n : Nat) (σ : Env) (a : Act) : Prop where
  size : a.tmps.size = n
  at_ : ∀ t, t < n → a.tmps.getD t undef = σ t
  defers : a.defers = D

theorem Ag.eval {n : Nat} {σ : Env} {a : Act} (h : Ag D n σ a) : a.eval = ev n σ := by
  funext x
  cases x with
  | tmp t =>
    simp only [Act.eval, ev]
    cases hb : Nat.blt t n with
    | true => simp only [cond_true]; exact h.at_ t (by simpa [Nat.blt_eq] using hb)
    | false =>
      simp only [cond_false]
      have : ¬ t < n := by
        intro hl
        rw [← Nat.blt_eq] at hl
        rw [hl] at hb; cases hb
      rw [Array.getD_eq_getD_getElem?, Array.getElem?_eq_none (by rw [h.size]; exact Nat.not_lt.mp this)]
      rfl
  | const v => rfl
  | global g => rfl
  | func f => rfl

theorem Ag.put {n : Nat} {σ : Env} {a : Act} (h : Ag D n σ a) (d : Option Tmp) (v : Value) : Ag D n (updO σ d v) (a.put d v) := by
  cases d with
  | none => exact h
  | some d =>
    refine ⟨by simp [Act.put, h.size], fun t ht => ?_, h.defers⟩
    simp only [Act.put, updO, upd]
    rw [Array.getD_eq_getD_getElem?, Array.getElem?_setIfInBounds]
    cases hb : Nat.beq t d with
    | true =>
      have e : t = d := by simpa [Nat.beq_eq] using hb
      subst e
      have hd : t < a.tmps.size := by rw [h.size]; exact ht
      simp [hd]
    | false =>
      have e : ¬ d = t := by
        intro e; subst e; simp at hb
      simp only [e, if_false, cond_false]
      rw [← Array.getD_eq_getD_getElem?]
      exact h.at_ t ht

/-- Whose frame is walked: a function's, or a round's. -/
inductive Fr where
  | fn (f : FuncId)
  | rd (l : Nat)
def Fr.ok : Fr → Frame → Prop
  | .fn f, b => b.fn = f ∧ b.kind = .normal ∧ b.roundOf = none
  | .rd l, b => b.kind = .normal ∧ b.roundOf = some l
def Fr.ends (P : Program) (R : Ending → World → Prop) (m : Machine) : Fr → List Frame → Prop
  | .fn f, cs => ∃ e w' fr, R e w' ∧ Comes P m (lone fr cs w') e ∧ fr.fn = f ∧ fr.leaving P w' e
  | .rd _, c :: cs => ∃ v w', R (.returned v) w' ∧ Steps P m (lone (c.finish v) cs w')
  | .rd _, [] => True
def plainOp : Op → Bool
  | .defer _ => false
  | _ => true
theorem plainOp.ne {o : Op} (h : plainOp o = true) : ∀ c, o ≠ .defer c := by
  intro c e
  rw [e] at h; cases h
/-- A round defers nothing. -/
def Fr.plain : Fr → List Oper → Bool
  | .fn _, _ => true
  | .rd _, l => l.all fun o => plainOp o.op
theorem Fr.ends.steps {P : Program} {R : Ending → World → Prop} {m m' : Machine} {f : Fr} {cs : List Frame} (hs : Steps P m m') (h : f.ends P R m' cs) : f.ends P R m cs := by
  cases f with
  | fn f =>
    obtain ⟨e, w', fr, hR, hc, hfn, hl⟩ := h
    exact ⟨e, w', fr, hR, Comes.of_steps hs hc, hfn, hl⟩
  | rd l =>
    cases cs with
    | nil => trivial
    | cons c cs =>
      obtain ⟨v, w', hR, hc⟩ := h
      exact ⟨v, w', hR, Steps.trans hs hc⟩
def Jk (P : Program) (f : Fr) (k : List Item) (R : Ending → World → Prop) (a : Act) (w : World) : Prop :=
  ∀ b : Frame, f.ok b → ∀ cs, f.ends P R (lone (b.atR a k) cs w) cs
theorem jk_of {P : Program} {f : FuncId} {k : List Item} {R : Ending → World → Prop} {a : Act} {w : World} (h : ∀ b : Frame, b.fn = f → b.kind = .normal → ∀ cs, ∃ e w' fr, R e w' ∧ Comes P (lone (b.at a k) cs w) (lone fr cs w') e ∧ fr.fn = f ∧ fr.leaving P w' e) : Jk P (.fn f) k R a w := by
  intro b hb cs
  rw [Frame.atR_of_none hb.2.2]
  exact h b hb.1 hb.2.1 cs
theorem jk_to {P : Program} {f : FuncId} {k : List Item} {R : Ending → World → Prop} {a : Act} {w : World} (h : Jk P (.fn f) k R a w) : ∀ b : Frame, b.fn = f → b.kind = .normal → ∀ cs, ∃ e w' fr, R e w' ∧ Comes P (lone (b.at a k) cs w) (lone fr cs w') e ∧ fr.fn = f ∧ fr.leaving P w' e := by
  intro b hb hk cs
  have h1 := h { b with roundOf := none } ⟨hb, hk, rfl⟩ cs
  rw [Frame.atR_of_none rfl] at h1
  exact h1
/-- From frame σ, with the work list k, in world w the call of f comes to an ending in R. -/
def J (D : List Deferred) (P : Program) (f : Fr) (n : Nat) (R : Ending → World → Prop) (k : List Item) (σ : Env) (w : World) : Prop :=
  ∀ a, Ag D n σ a → Jk P f k R a w
def Qk (D : List Deferred) (P : Program) (f : Fr) (n : Nat) (R : Ending → World → Prop) (k : List Item) (e : Exit) (a : Act) (w : World) : Prop :=
  e = .normal ∧ a.tmps.size = n ∧ a.defers = D ∧ Jk P f k R a w
/-- The operations l of a region, then k. -/
def JL (D : List Deferred) (P : Program) (f : Fr) (n : Nat) (R : Ending → World → Prop) (ops : Array Oper) (l : List Oper) (k : List Item) (σ : Env) (w : World) : Prop :=
  ∀ a, Ag D n σ a → wpList P ops (Qk D P f n R k) l a w

section
variable {P : Program} {f : Fr} {n : Nat} {R : Ending → World → Prop} {k : List Item} {σ : Env} {w : World}

theorem Jk.of_steps {a a' : Act} {k k' : List Item} {w' : World}
    (hs : ∀ (b : Frame) cs, Steps P (lone (b.atR a k) cs w) (lone (b.atR a' k') cs w')) (h : Jk P f k' R a' w') : Jk P f k R a w :=
  fun b hb cs => Fr.ends.steps (hs b cs) (h b hb cs)
theorem J.seq {x y : Code} (h : J D P f n R (.code x :: .code y :: k) σ w) : J D P f n R (.code (.seq x y) :: k) σ w :=
  fun a ha => Jk.of_steps (fun _ _ => .one stepR_seq) (h a ha)
theorem J.skip (h : J D P f n R k σ w) : J D P f n R (.code .skip :: k) σ w :=
  fun a ha => Jk.of_steps (fun _ _ => .one stepR_skip) (h a ha)
theorem J.block {id : Nat} {c : Code} (h : J D P f n R (.code c :: .inBlock id :: k) σ w) : J D P f n R (.code (.block id c) :: k) σ w :=
  fun a ha => Jk.of_steps (fun _ _ => .one stepR_block) (h a ha)
theorem J.inBlock {id : Nat} (h : J D P f n R k σ w) : J D P f n R (.inBlock id :: k) σ w :=
  fun a ha => Jk.of_steps (fun _ _ => .one stepR_inBlock) (h a ha)
theorem J.exit {id : Nat} {k' : List Item} (he : exitTo id k = some k') (h : J D P f n R k' σ w) : J D P f n R (.code (.exit id) :: k) σ w :=
  fun a ha => Jk.of_steps (fun _ _ => .one (stepR_exit he)) (h a ha)
theorem J.cond {c : Operand} {x y : Code} {t : Bool} (hc : ev n σ c = .bool t) (ht : t = true → J D P f n R (.code x :: k) σ w)
    (hf : t = false → J D P f n R (.code y :: k) σ w) : J D P f n R (.code (.cond c x y) :: k) σ w := by
  intro a ha
  refine Jk.of_steps (fun _ _ => .one (stepR_cond (t := t) (by rw [ha.eval]; exact hc))) ?_
  cases t with
  | true => exact ht rfl a ha
  | false => exact hf rfl a ha
theorem J.cond_t {c : Operand} {x y : Code} {t : Bool} (hc : ev n σ c = .bool t) (hb : t = true) (ht : J D P f n R (.code x :: k) σ w) :
    J D P f n R (.code (.cond c x y) :: k) σ w := J.cond hc (fun _ => ht) (fun h => by rw [hb] at h; cases h)
theorem J.cond_f {c : Operand} {x y : Code} {t : Bool} (hc : ev n σ c = .bool t) (hb : t = false) (ht : J D P f n R (.code y :: k) σ w) :
    J D P f n R (.code (.cond c x y) :: k) σ w := J.cond hc (fun h => by rw [hb] at h; cases h) (fun _ => ht)
/-- A test on a decidable statement. -/
theorem J.cond_d {c : Operand} {x y : Code} {p : Prop} [Decidable p] (hc : ev n σ c = .bool (decide p)) (ht : p → J D P f n R (.code x :: k) σ w)
    (hf : ¬ p → J D P f n R (.code y :: k) σ w) : J D P f n R (.code (.cond c x y) :: k) σ w :=
  J.cond hc (fun h => ht (of_decide_eq_true h)) (fun h => hf (of_decide_eq_false h))

/-- A loop: index i, the slots that hold its values, what holds of the world, a measure. -/
theorem J.loop {c : Code} {ι : Type} (S : ι → List (Nat × Value)) (Φ : ι → World → Prop) (μ : ι → Nat) (C : List (Nat × Value)) (i0 : ι)
    (hC : Has σ C) (hS : Has σ (S i0)) (hΦ : Φ i0 w)
    (step : ∀ i (ρ : Env) (w : World), Φ i w → (∀ i' (σ' : Env) (w' : World), μ i' < μ i → Has σ' C → Has σ' (S i') → Φ i' w' → J D P f n R (.inLoop c :: k) σ' w') →
      J D P f n R (.code c :: .inLoop c :: k) (upds (upds ρ C) (S i)) w) : J D P f n R (.code (.loop c) :: k) σ w := by
  have hup : ∀ (l : List (Nat × Value)) (σ : Env), Has σ l → upds σ l = σ := by
    intro l
    induction l with
    | nil => intro σ _; rfl
    | cons p l ih =>
      intro σ h
      simp only [upds, ih σ h.2]
      funext t
      simp only [upd]
      cases hb : Nat.beq t p.1 with
      | true =>
        have e : t = p.1 := by simpa [Nat.beq_eq] using hb
        rw [e]; exact h.1.symm
      | false => rfl
  have main : ∀ m i (σ : Env) (w : World), μ i ≤ m → Has σ C → Has σ (S i) → Φ i w → J D P f n R (.code c :: .inLoop c :: k) σ w := by
    intro m
    induction m with
    | zero =>
      intro i σ w hm hC hS hΦ
      have := step i σ w hΦ (fun i' _ _ h => by omega)
      rw [hup C σ hC, hup (S i) σ hS] at this
      exact this
    | succ m ih =>
      intro i σ w hm hC hS hΦ
      have := step i σ w hΦ (fun i' σ' w' h hC' hS' hΦ' a ha => Jk.of_steps (fun _ _ => .one stepR_inLoop) (ih i' σ' w' (by omega) hC' hS' hΦ' a ha))
      rw [hup C σ hC, hup (S i) σ hS] at this
      exact this
  exact fun a ha => Jk.of_steps (fun _ _ => .one stepR_loop) (main (μ i0) i0 σ w (Nat.le_refl _) hC hS hΦ a ha)

/-- Ways meet again: only the named slots are kept. -/
theorem J.cut {S : List (Nat × Value)} (hS : Has σ S) (h : ∀ ρ : Env, J D P f n R k (upds ρ S) w) : J D P f n R k σ w := by
  have hup : ∀ (l : List (Nat × Value)) (σ : Env), Has σ l → upds σ l = σ := by
    intro l
    induction l with
    | nil => intro σ _; rfl
    | cons p l ih =>
      intro σ h
      simp only [upds, ih σ h.2]
      funext t
      simp only [upd]
      cases hb : Nat.beq t p.1 with
      | true =>
        have e : t = p.1 := by simpa [Nat.beq_eq] using hb
        rw [e]; exact h.1.symm
      | false => rfl
  have := h σ
  rwa [hup S σ hS] at this

theorem J.ret_of {f : FuncId} {fn : Func} {v : Value} (hf : P.funcs[f]? = some fn) (hr : ∀ a, Ag [] n σ a → (results fn a.tmps).run P w = .ok v w)
    (hR : R (.returned v) w) : J [] P (.fn f) n R (.code .ret :: k) σ w := by
  intro a ha
  refine jk_of ?_
  intro b hb hk cs
  refine ⟨.returned v, w, { b.at a (.code .ret :: k) with mode := .returning }, hR, .one step_ret, hb, rfl, ha.defers, hk, fn, ?_, hr a ha⟩
  show P.funcs[b.fn]? = some fn
  rw [hb]; exact hf
theorem J.end_of {f : FuncId} {fn : Func} {v : Value} (hf : P.funcs[f]? = some fn) (hr : ∀ a, Ag [] n σ a → (results fn a.tmps).run P w = .ok v w)
    (hR : R (.returned v) w) : J [] P (.fn f) n R [] σ w := by
  intro a ha
  refine jk_of ?_
  intro b hb hk cs
  refine ⟨.returned v, w, { b.at a [] with mode := .returning }, hR, .one step_end, hb, rfl, ha.defers, hk, fn, ?_, hr a ha⟩
  show P.funcs[b.fn]? = some fn
  rw [hb]; exact hf

theorem Ag.tmp {a : Act} (ha : Ag D n σ a) (t : Tmp) : a.tmps.getD t undef = ev n σ (.tmp t) := by
  have := congrFun ha.eval (.tmp t)
  exact this
theorem results0 {fn : Func} (h : fn.results = #[]) (a : Act) : (results fn a.tmps).run P w = .ok (.tuple #[]) w := by simp [results, h]
theorem results1 {fn : Func} {t : Tmp} {v : Value} (h : fn.results = #[.tmp t]) (hv : ev n σ (.tmp t) = v) (a : Act) (ha : Ag D n σ a) :
    (results fn a.tmps).run P w = .ok v w := by
  rw [← hv, ← ha.tmp]; simp [results, h]
theorem results2 {fn : Func} {t u : Tmp} {v x : Value} (h : fn.results = #[.tmp t, .tmp u]) (hv : ev n σ (.tmp t) = v) (hx : ev n σ (.tmp u) = x)
    (a : Act) (ha : Ag D n σ a) : (results fn a.tmps).run P w = .ok (.tuple #[v, x]) w := by
  rw [← hv, ← hx, ← ha.tmp, ← ha.tmp]; simp [results, h]
theorem results3 {fn : Func} {t u s : Tmp} {v x y : Value} (h : fn.results = #[.tmp t, .tmp u, .tmp s]) (hv : ev n σ (.tmp t) = v) (hx : ev n σ (.tmp u) = x)
    (hy : ev n σ (.tmp s) = y) (a : Act) (ha : Ag D n σ a) : (results fn a.tmps).run P w = .ok (.tuple #[v, x, y]) w := by
  rw [← hv, ← hx, ← hy, ← ha.tmp, ← ha.tmp, ← ha.tmp]; simp [results, h]
theorem J.ret0 {f : FuncId} {fn : Func} (hf : P.funcs[f]? = some fn) (h : fn.results = #[]) (hR : R (.returned (.tuple #[])) w) : J [] P (.fn f) n R (.code .ret :: k) σ w :=
  J.ret_of hf (fun a _ => results0 h a) hR
theorem J.end0 {f : FuncId} {fn : Func} (hf : P.funcs[f]? = some fn) (h : fn.results = #[]) (hR : R (.returned (.tuple #[])) w) : J [] P (.fn f) n R [] σ w :=
  J.end_of hf (fun a _ => results0 h a) hR
theorem J.ret1 {f : FuncId} {fn : Func} {t : Tmp} {v : Value} (hf : P.funcs[f]? = some fn) (h : fn.results = #[.tmp t]) (hv : ev n σ (.tmp t) = v)
    (hR : R (.returned v) w) : J [] P (.fn f) n R (.code .ret :: k) σ w := J.ret_of hf (results1 h hv) hR
theorem J.ret2 {f : FuncId} {fn : Func} {t u : Tmp} {v x : Value} (hf : P.funcs[f]? = some fn) (h : fn.results = #[.tmp t, .tmp u]) (hv : ev n σ (.tmp t) = v)
    (hx : ev n σ (.tmp u) = x) (hR : R (.returned (.tuple #[v, x])) w) : J [] P (.fn f) n R (.code .ret :: k) σ w := J.ret_of hf (results2 h hv hx) hR
theorem J.ret3 {f : FuncId} {fn : Func} {t u s : Tmp} {v x y : Value} (hf : P.funcs[f]? = some fn) (h : fn.results = #[.tmp t, .tmp u, .tmp s]) (hv : ev n σ (.tmp t) = v)
    (hx : ev n σ (.tmp u) = x) (hy : ev n σ (.tmp s) = y) (hR : R (.returned (.tuple #[v, x, y])) w) : J [] P (.fn f) n R (.code .ret :: k) σ w :=
  J.ret_of hf (results3 h hv hx hy) hR

/-- A call: the frame is entered. -/
theorem envOf_get : ∀ (l : List Value) (t : Nat), envOf l t = l[t]?.getD undef := by
  intro l
  induction l with
  | nil => intro t; simp [envOf]
  | cons v l ih =>
    intro t
    cases t with
    | zero => simp [envOf]
    | succ t => simp [envOf, ih]
theorem Calls.of_J {f : FuncId} {fn : Func} {c : Code} {l : List Value} (hf : P.funcs[f]? = some fn) (hb : fn.body = some c) (hn : fn.ntmps = n) (hl : Nat.ble l.length n = true)
    (h : J [] P (.fn f) n R [.code c] (envOf l) w) : Calls P f l.toArray w R := by
  intro cs
  let b : Frame := { (default : Frame) with fn := f, kind := .normal }
  have henter : Frame.enter P f l.toArray .normal = b.at { tmps := l.toArray ++ Array.replicate (fn.ntmps - l.toArray.size) undef, defers := [] } [.code c] := by
    simp [Frame.enter, Frame.at, hf, hb, b]
  have hle : l.length ≤ n := Nat.le_of_ble_eq_true hl
  have hag : Ag [] n (envOf l) { tmps := l.toArray ++ Array.replicate (fn.ntmps - l.toArray.size) undef, defers := [] } := by
    refine ⟨by simp [hn]; omega, fun t ht => ?_, rfl⟩
    rw [envOf_get, Array.getD_eq_getD_getElem?, Array.getElem?_append]
    simp only [List.size_toArray, List.getElem?_toArray]
    split
    · rfl
    · rename_i hge
      rw [Array.getElem?_replicate, List.getElem?_eq_none (by omega)]
      split <;> rfl
  obtain ⟨e, w', fr, hR, hc, hfn, hlv⟩ := jk_to (h _ hag) b rfl rfl cs
  rw [← henter] at hc
  exact ⟨e, w', fr, hR, hc, hfn, hlv⟩

/-- A region in the text's order. -/
theorem J.region_of {f : FuncId} {id : Nat} {ops : Array Oper} {dr : Bool} (h : ∀ a, Ag D n σ a → (Code.region id ops dr).wp P (Qk D P (.fn f) n R k) a w) : J D P (.fn f) n R (.code (.region id ops dr) :: k) σ w := by
  intro a ha
  refine jk_of ?_
  intro b hb hk cs
  obtain ⟨e, a', w', ⟨rfl, _, _, hj⟩, harr⟩ := h a ha b k cs
  obtain ⟨e2, w2, fr, hR, hc, hfn, hl⟩ := jk_to hj b hb hk cs
  exact ⟨e2, w2, fr, hR, Comes.of_steps harr hc, hfn, hl⟩
/-! The same in a round's frame. -/
theorem Oper.wpIn_of_wp {l : Nat} {o : Oper} {a : Act} {K : Act → World → Prop} {Q : Exit → Act → World → Prop} (hp : plainOp o.op = true) (h : o.wp P a w K Q) : o.wpIn (Fence.wide.inRound l) 0 P a w K Q := by
  refine ⟨fun f _ => trivial, ?_⟩
  rw [Oper.semAt_eq _ _ _ (plainOp.ne hp)]
  unfold Oper.wp at h
  revert h
  generalize (execOp a.eval o).run P w = r
  intro h
  cases r with
  | halt x w' => cases x <;> first | exact h.elim | exact h
  | ok x w' =>
    cases x with
    | value v => exact h
    | skip => exact h
    | defer d => exact h
    | enter g args => exact ⟨fun hd => (by cases hd), CallsIn.mono (CallsIn.inRound l (callsIn_wide.2 h)) fun e w'' he => by cases e <;> exact he⟩
    | row row args => exact ⟨fun hd => (by cases hd), fun c cs _ => (fun ⟨v, w2, hr, hs⟩ => ⟨v, w2, hr, stepsIn_wide.2 hs⟩) (h c cs)⟩
    | _ => exact h.elim
theorem wpListIn_of {l : Nat} {ops : Array Oper} {Q : Exit → Act → World → Prop} (hQ : ¬ LetsOut Q) : ∀ (os : List Oper) (a : Act) (w : World), os.all (fun o : Oper => plainOp o.op) = true → wpList P ops Q os a w → wpListIn (Fence.wide.inRound l) 0 P ops Q os a w
  | [], _, _, _, h => h
  | o :: os, a, w, hp, h => by
    simp only [List.all_cons, Bool.and_eq_true] at hp
    simp only [wpList] at h
    simp only [wpListIn]
    split at h
    · next hw =>
      rw [if_pos hw]
      refine Oper.wpIn_of_wp hp.1 ?_
      rcases h with h | ⟨_, h⟩
      · exact Oper.wp_mono (fun a' w' h' => wpListIn_of hQ os a' w' hp.2 h') h
      · exact absurd h hQ
    · next hw =>
      rw [if_neg hw]
      exact ⟨fun _ _ => trivial, wpListIn_of hQ os _ _ hp.2 h⟩
theorem wpAnyIn_of {l : Nat} {ops : Array Oper} {Q : Exit → Act → World → Prop} {md : Region.Mode} (hQ : ¬ LetsOut Q) (hp : ∀ (i : Nat) (o : Oper), ops[i]? = some o → plainOp o.op = true) : ∀ (fuel : Nat) (listed : Array Bool) (a : Act) (w : World), wpAny P md ops Q fuel listed a w → wpAnyIn (Fence.wide.inRound l) 0 P md ops Q fuel listed a w
  | 0, _, _, _, h => h
  | fuel + 1, listed, a, w, h => by
    refine ⟨h.1, fun i hi => ?_⟩
    have h2 := h.2 i hi
    unfold wpOp at h2
    unfold wpOpIn
    split at h2
    · next ho => simp only [ho]; exact wpAnyIn_of hQ hp fuel _ _ _ h2
    · next o ho =>
      simp only [ho]
      split at h2
      · next hw =>
        rw [if_pos hw]
        refine Oper.wpIn_of_wp (hp i o ho) ?_
        rcases h2 with h2 | ⟨_, h2⟩
        · exact Oper.wp_mono (fun a' w' h' => wpAnyIn_of hQ hp fuel _ a' w' h') h2
        · exact absurd h2 hQ
      · next hw =>
        rw [if_neg hw]
        exact ⟨fun _ _ => trivial, wpAnyIn_of hQ hp fuel _ _ _ h2⟩
theorem qk_lets {D : List Deferred} : ¬ LetsOut (Qk D P f n R k) := by
  rintro ⟨a, w, h, _⟩
  cases h
theorem J.region_rd {l id : Nat} {ops : Array Oper} {dr : Bool} (h : ∀ a, Ag D n σ a → (Code.region id ops dr).wpIn (Fence.wide.inRound l) 0 P (Qk D P (.rd l) n R k) a w) : J D P (.rd l) n R (.code (.region id ops dr) :: k) σ w := by
  intro a ha b hb cs
  cases cs with
  | nil => trivial
  | cons c cs =>
    obtain ⟨e, a', w', ⟨rfl, _, _, hj⟩, harr⟩ := h a ha b k (c :: cs) hb.2 trivial (room_wide _)
    exact Fr.ends.steps (StepsIn.steps harr) (hj b hb (c :: cs))
theorem J.region {id : Nat} {l : List Oper} (h : JL D P f n R l.toArray l k σ w) (hp : f.plain l = true := by exact rfl) : J D P f n R (.code (.region id l.toArray false) :: k) σ w := by
  cases f with
  | fn f => exact J.region_of fun a ha => wp_region_lit (h a ha)
  | rd r => exact J.region_rd fun a ha => wpIn_region_lit (wpListIn_of qk_lets l a w hp (h a ha))
theorem J.anyof {id : Nat} {ops : Array Oper} (hm : P.follows .mixedOrders = true) (h : ∀ a, Ag D n σ a → wpAny P .any ops (Qk D P f n R k) ops.size (Array.replicate ops.size false) a { w with drawn := w.drawn + 1 }) (hp : f.plain ops.toList = true) : J D P f n R (.code (.region id ops true) :: k) σ w := by
  cases f with
  | fn f => exact J.region_of fun a ha => wp_region_any hm (h a ha)
  | rd r => exact J.region_rd fun a ha => wpIn_region_any hm (wpAnyIn_of qk_lets (fun i o ho => by
      have hm : o ∈ ops.toList := List.mem_of_getElem? (by rw [Array.getElem?_toList]; exact ho)
      exact List.all_eq_true.1 hp o hm) _ _ _ _ (h a ha))
theorem JL.nil {ops : Array Oper} (h : J D P f n R k σ w) : JL D P f n R ops [] k σ w :=
  fun a ha => wpList_nil ⟨rfl, ha.size, ha.defers, h a ha⟩

def yieldE (n : Nat) (σ : Env) (ops : Array Oper) (j : Nat) : Option Bool :=
  match ((ops[j]?).bind (·.dst)).map (fun t => ev n σ (.tmp t)) with
  | some (.bool b) => some b
  | _ => none
theorem Ag.yields {a : Act} (ha : Ag D n σ a) (ops : Array Oper) (j : Nat) : yielded ops a.tmps j = yieldE n σ ops j := by
  unfold Go.yielded yieldE
  cases (ops[j]?).bind (·.dst) with
  | none => rfl
  | some t =>
    simp only [Option.bind_some, Option.map_some]
    rw [← ha.tmp, Array.getD_eq_getD_getElem?]
    cases a.tmps[t]? with
    | none => simp [undef]
    | some v => simp only [Option.getD_some]; cases v <;> rfl

/-- The general step: what the operation comes to. -/
theorem JL.step {ops : Array Oper} {o : Oper} {rest : List Oper} (hg : Region.wanted o (yieldE n σ ops) = true)
    (h : ∀ a, Ag D n σ a → o.upon P a (fun a' w' => ∃ v, a' = a.put o.dst v ∧ JL D P f n R ops rest k (updO σ o.dst v) w') (fun _ _ _ => False) ((execOp (ev n σ) o).run P w)) :
    JL D P f n R ops (o :: rest) k σ w := by
  intro a ha
  have hy : yielded ops a.tmps = yieldE n σ ops := funext (ha.yields ops)
  simp only [wpList, hy, hg, if_true]
  refine .inl ?_
  have h' := h a ha
  rw [← ha.eval] at h'
  simp only [Oper.wp]
  revert h'
  generalize (execOp a.eval o).run P w = r
  intro h'
  have key : ∀ a' w', (∃ v, a' = a.put o.dst v ∧ JL D P f n R ops rest k (updO σ o.dst v) w') → wpList P ops (Qk D P f n R k) rest a' w' := by
    rintro a' w' ⟨v, rfl, hj⟩
    exact hj _ (ha.put _ _)
  cases r with
  | halt x w' => cases x <;> first | exact h'.elim | exact absurd h' id
  | ok x w' =>
    cases x with
    | value v => exact key _ _ h'
    | skip => exact key _ _ h'
    | defer d =>
      obtain ⟨v, he, _⟩ := h'
      have hd := congrArg Act.defers he
      cases hdst : o.dst <;> simp [Act.put, hdst] at hd
    | enter g args =>
      refine Calls.mono h' ?_
      intro e w'' hr
      cases e with
      | returned v => exact key _ _ hr
      | panicked c => exact hr.elim
      | outgrown => exact hr.elim (fun _ h => h.elim (fun _ h => h.elim))
    | row row args => exact Rows.mono h' fun v w'' hr => key _ _ hr
    | _ => exact h'.elim

theorem JL.val {ops : Array Oper} {o : Oper} {rest : List Oper} {v : Value} {w' : World} (hg : o.guard = none)
    (hrun : (execOp (ev n σ) o).run P w = .ok (.value v) w') (h : JL D P f n R ops rest k (updO σ o.dst v) w') : JL D P f n R ops (o :: rest) k σ w := by
  refine JL.step (by simp [Region.wanted, hg]) fun a _ => ?_
  rw [hrun]
  exact ⟨v, rfl, h⟩
theorem JL.valg {ops : Array Oper} {o : Oper} {rest : List Oper} {v : Value} {w' : World} {j : Nat} {b b' : Bool} (hg : o.guard = some (j, b)) (hy : yieldE n σ ops j = some b') (hb : b' = b)
    (hrun : (execOp (ev n σ) o).run P w = .ok (.value v) w') (h : JL D P f n R ops rest k (updO σ o.dst v) w') : JL D P f n R ops (o :: rest) k σ w := by
  refine JL.step (by simp [Region.wanted, hg, hy, hb]) fun a _ => ?_
  rw [hrun]
  exact ⟨v, rfl, h⟩
theorem JL.skipg {ops : Array Oper} {o : Oper} {rest : List Oper} {j : Nat} {b b' : Bool} (hg : o.guard = some (j, b)) (hy : yieldE n σ ops j = some b') (hb : b' = !b)
    (h : JL D P f n R ops rest k (updO σ o.dst undef) w) : JL D P f n R ops (o :: rest) k σ w := by
  intro a ha
  have hw : Region.wanted o (yielded ops a.tmps) = false := by
    rw [funext (ha.yields ops)]
    simp only [Region.wanted, hg, hy, hb]
    cases b <;> rfl
  simp only [wpList, hw, if_false, Bool.false_eq_true]
  exact h _ (ha.put _ _)

/-- A call comes back with a value. -/
def Ret (P : Program) (g : FuncId) (l : List Value) (w : World) (Φ : Value → World → Prop) : Prop :=
  Calls P g l.toArray w fun e w' => ∃ v, e = .returned v ∧ Φ v w'
theorem Ret.mono {g : FuncId} {l : List Value} {Φ Ψ : Value → World → Prop} (h : Ret P g l w Φ) (hm : ∀ v w', Φ v w' → Ψ v w') : Ret P g l w Ψ :=
  Calls.mono h fun _ _ ⟨v, he, hΦ⟩ => ⟨v, he, hm _ _ hΦ⟩
theorem JL.enter {ops : Array Oper} {o : Oper} {rest : List Oper} {g : FuncId} {l : List Value} {Φ : Value → World → Prop} (hg : o.guard = none)
    (hrun : (execOp (ev n σ) o).run P w = .ok (.enter g l.toArray) w) (hc : Ret P g l w Φ)
    (h : ∀ v w', Φ v w' → JL D P f n R ops rest k (updO σ o.dst v) w') : JL D P f n R ops (o :: rest) k σ w := by
  refine JL.step (by simp [Region.wanted, hg]) fun a _ => ?_
  rw [hrun]
  exact Calls.mono hc fun e w' ⟨v, he, hΦ⟩ => by rw [he]; exact ⟨v, rfl, h v w' hΦ⟩
theorem JL.enterg {ops : Array Oper} {o : Oper} {rest : List Oper} {g : FuncId} {l : List Value} {Φ : Value → World → Prop} {j : Nat} {b b' : Bool} (hg : o.guard = some (j, b)) (hy : yieldE n σ ops j = some b') (hb : b' = b)
    (hrun : (execOp (ev n σ) o).run P w = .ok (.enter g l.toArray) w) (hc : Ret P g l w Φ)
    (h : ∀ v w', Φ v w' → JL D P f n R ops rest k (updO σ o.dst v) w') : JL D P f n R ops (o :: rest) k σ w := by
  refine JL.step (by simp [Region.wanted, hg, hy, hb]) fun a _ => ?_
  rw [hrun]
  exact Calls.mono hc fun e w' ⟨v, he, hΦ⟩ => by rw [he]; exact ⟨v, rfl, h v w' hΦ⟩
/-- Splits on the Bool that a slot holds. -/
theorem JL.split {ops : Array Oper} {l : List Oper} (b : Bool) (ht : b = true → JL D P f n R ops l k σ w) (hf : b = false → JL D P f n R ops l k σ w) : JL D P f n R ops l k σ w := by
  cases b with
  | true => exact ht rfl
  | false => exact hf rfl
end
end Go.Eng
