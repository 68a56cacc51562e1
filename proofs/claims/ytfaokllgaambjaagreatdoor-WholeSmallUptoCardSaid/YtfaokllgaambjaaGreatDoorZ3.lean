/- Part 3 of the proof that WholeSmall holds: what the functions on its way do, step by step. -/
import Derived.Test.YtfaokllgaambjaaGreatDoorZ2
import Derived.StillTail
import Derived.Laws.Pointers
import Derived.OrdersHeld
import Derived.Lib.ConvBytes
import Derived.Recover
import Derived.Laws.Build
import Derived.RangeFuncIn
import Derived.RangeFuncLeaves
import Derived.RangeFuncRecord
import Derived.RangeFuncSeq
import Derived.RangeFuncCalls
import Derived.OrdersIn
import Derived.TacticsIn
import Derived.Laws.FloatArith
import Derived.Conc.MuLone
import Derived.Laws.Small
import Derived.Laws.MakeOwn
set_option linter.unusedVariables false
set_option linter.unusedSimpArgs false
namespace Go.Eng
open Go
variable {D : List Deferred}
section
variable {P : Program} {ops : Array Oper} {C : World → Prop} {md : Region.Mode}
def sinkL (md : Region.Mode) (ops : Array Oper) (n : Nat) (l0 : Array Bool) : Bool :=
  (List.range n).all fun i => l0.getD i false || (List.range (n + 1)).any fun j => decide (i < j) && Region.waitsFor md ops j i
def closedL (md : Region.Mode) (ops : Array Oper) (l0 : Array Bool) : Bool :=
  (List.range ops.size).all fun j => !l0.getD j false || (match ops[j]? with | some o => o.after.all fun e => !Region.binds md e || l0.getD e.on false | none => true)
def tailL (ops : Array Oper) (n : Nat) (l0 : Array Bool) : Bool := (List.range ops.size).all fun t => decide (t < n) || !l0.getD t true
theorem inv_of {n : Nat} {l0 : Array Bool} (hs : l0.size = ops.size) (hc : closedL md ops l0 = true) (ht : tailL ops n l0 = true) : HeadInv md ops n l0 := by
  refine ⟨hs, fun j oj hj hl e he hb => ?_, fun t h1 h2 => ?_⟩
  · have hlt : j < ops.size := (Array.getElem?_eq_some_iff.1 hj).1
    have h := List.all_eq_true.1 hc j (List.mem_range.2 hlt)
    simp only [hl, Bool.not_true, Bool.false_or, hj, Array.all_eq_true_iff_forall_mem] at h
    have := h e he
    simpa [hb] using this
  · have h := List.all_eq_true.1 ht t (List.mem_range.2 h2)
    simp only [Bool.or_eq_true, decide_eq_true_eq] at h
    rcases h with h | h
    · omega
    · simpa using h
theorem tail_waitsL {n : Nat} {l0 listed : Array Bool} (hs : sinkL md ops n l0 = true) (h0 : ∀ i, l0.getD i false = true → listed.getD i false = true) (hc : Region.chainB md ops n = true) (inv : HeadInv md ops n listed) :
    ∀ (d i : Nat), n - i = d → i < n → listed.getD i true = false → ∀ t, n ≤ t → t ∉ Region.ready md ops listed := by
  intro d
  induction d using Nat.strongRecOn with
  | _ d ih =>
    intro i hd hi hun t ht hr
    obtain ⟨_, ot, hot, hall⟩ := mem_ready.1 hr
    have htlt : t < ops.size := (Array.getElem?_eq_some_iff.1 hot).1
    by_cases htn : t = n
    · subst htn
      have h1 := List.all_eq_true.1 hs i (List.mem_range.2 hi)
      rw [Bool.or_eq_true] at h1
      rcases h1 with h1 | h1
      · have := h0 i h1
        rw [getD_both hun] at this; cases this
      obtain ⟨j, hj, hj2⟩ := List.any_eq_true.1 h1
      simp only [Bool.and_eq_true, decide_eq_true_eq] at hj2
      obtain ⟨oj, hoj, e, he, hb, hon⟩ := Region.waitsFor_spec hj2.2
      have hjle : j ≤ t := by have := List.mem_range.1 hj; omega
      by_cases hjt : j = t
      · subst hjt
        have : oj = ot := Option.some.inj (hoj.symm.trans hot)
        subst this
        have h2 := hall e he hb
        rw [hon, getD_both hun] at h2
        cases h2
      · cases hl : listed.getD j false with
        | true =>
          have h2 := inv.closed j oj hoj hl e he hb
          rw [hon, getD_both hun] at h2
          cases h2
        | false =>
          have hjs : j < listed.size := by rw [inv.size]; omega
          exact ih (t - j) (by omega) j rfl (by omega) (getD_in hjs hl) t (Nat.le_refl _) hr
    · have h1 := List.all_eq_true.1 hc t (List.mem_range.2 htlt)
      simp only [Bool.or_eq_true, decide_eq_true_eq] at h1
      rcases h1 with h1 | h1
      · omega
      · obtain ⟨o', ho', e, he, hb, hon⟩ := Region.waitsFor_spec h1
        have : o' = ot := Option.some.inj (ho'.symm.trans hot)
        subst this
        have h2 := hall e he hb
        rw [hon, getD_both (inv.tail (t - 1) (by omega) (by omega))] at h2
        cases h2
def wpHead (P : Program) (md : Region.Mode) (ops : Array Oper) (C : World → Prop) (n : Nat) (L : Array Bool → Act → Prop) : Nat → Array Bool → Act → Prop
  | 0, listed, a => L listed a
  | f + 1, listed, a =>
    Region.ready md ops listed ≠ [] ∧ ∀ i ∈ Region.ready md ops listed, i < n ∧ qOp P ops C i (wpHead P md ops C n L f (listed.setIfInBounds i true)) a
theorem wpAny_of_headQ {n g : Nat} {L : Array Bool → Act → Prop} {Q' : Exit → Act → World → Prop} (hL : ∀ listed a w, C w → L listed a → wpAny P md ops Q' g listed a w) :
    ∀ (f : Nat) (listed : Array Bool) (a : Act) (w : World), C w → wpHead P md ops C n L f listed a → wpAny P md ops Q' (f + g) listed a w
  | 0, listed, a, w, hw, h => by rw [Nat.zero_add]; exact hL _ _ _ hw h
  | f + 1, listed, a, w, hw, h => by
    rw [show f + 1 + g = (f + g) + 1 by omega]
    exact ⟨fun h0 => absurd h0 h.1, fun i hi => wpOp_of_qOp hw (fun a' w' hw' h' => wpAny_of_headQ hL f _ a' w' hw' h') (h.2 i hi).2⟩
theorem getD_keep {l0 listed : Array Bool} {j : Nat} (h0 : ∀ i, l0.getD i false = true → listed.getD i false = true) : ∀ i, l0.getD i false = true → (listed.setIfInBounds j true).getD i false = true :=
  fun i hi => getD_set_true (h0 i hi)
theorem wpHead_first {n i : Nat} {oi : Oper} {v : Value} {L : Array Bool → Act → Prop} {l0 : Array Bool} (hi : ops[i]? = some oi) (hsel : ∀ (j : Nat) (o : Oper) cs b, ops[j]? = some o → o.op ≠ .select cs b)
    (hs : sinkL md ops n l0 = true) (hc : Region.chainB md ops n = true) (hin : i < n)
    (hdone : ∀ listed a, L listed a → ∀ j ∈ Region.ready md ops listed, n ≤ j) :
    ∀ (f : Nat) (listed : Array Bool) (a : Act), HeadInv md ops n listed → (∀ i, l0.getD i false = true → listed.getD i false = true) →
      (∀ j oj, ops[j]? = some oj → j ≠ i → listed.getD j true = false → (∀ e ∈ oj.after, Region.binds md e = true → e.on ≠ i) → oi.apart ops oj = true) →
      i ∈ Region.ready md ops listed → YieldsIn P ops C oi v a →
      wpHead P md ops C n L f (listed.setIfInBounds i true) (a.put oi.dst v) → wpHead P md ops C n L (f + 1) listed a := by
  intro f
  induction f with
  | zero =>
    intro listed a inv h0 _ hr hy H
    have hun := (mem_ready.1 hr).1
    refine ⟨fun h => (by rw [h] at hr; cases hr), fun j hj => ?_⟩
    have hjn : j < n := by
      rcases Nat.lt_or_ge j n with h | h
      · exact h
      · exact absurd hj (tail_waitsL hs h0 hc inv _ i rfl hin hun j h)
    refine ⟨hjn, ?_⟩
    by_cases hji : j = i
    · subst hji; exact hy.qOp hi H
    · have := hdone _ _ H j (ready_mono hj hji)
      omega
  | succ f ih =>
    intro listed a inv h0 hfree hr hy H
    have hun := (mem_ready.1 hr).1
    refine ⟨fun h => (by rw [h] at hr; cases hr), fun j hj => ?_⟩
    have hjn : j < n := by
      rcases Nat.lt_or_ge j n with h | h
      · exact h
      · exact absurd hj (tail_waitsL hs h0 hc inv _ i rfl hin hun j h)
    refine ⟨hjn, ?_⟩
    by_cases hji : j = i
    · subst hji; exact hy.qOp hi H
    · have h1 := (H.2 j (ready_mono hj hji)).2
      obtain ⟨hjun, oj, hoj, hall⟩ := mem_ready.1 hj
      have hnot : ∀ e ∈ oj.after, Region.binds md e = true → e.on ≠ i := fun e he hb heq => by
        have h1 := hall e he hb
        rw [heq, getD_both hun] at h1
        cases h1
      have h2 := qOp_put hoj (hfree j oj hoj hji hjun hnot) (fun cs b => hsel i oi cs b hi) (fun cs b => hsel j oj cs b hoj) hy h1
      have hfree' : ∀ k ok, ops[k]? = some ok → k ≠ i → (listed.setIfInBounds j true).getD k true = false →
          (∀ e ∈ ok.after, Region.binds md e = true → e.on ≠ i) → oi.apart ops ok = true := fun k ok hk hki hun hno => by
        refine hfree k ok hk hki ?_ hno
        by_cases hjk : j = k
        · subst hjk; exact hjun
        · rw [getD_set_ne true hjk] at hun; exact hun
      refine qOp_mono (fun a' h3 => ih (listed.setIfInBounds j true) a' (inv.set hj hjn) (getD_keep h0) hfree' (ready_mono hr (Ne.symm hji)) h3.1 ?_) h2
      rw [Array.setIfInBounds_comm _ _ hji]
      exact h3.2
def wpIdx (P : Program) (ops : Array Oper) (C : World → Prop) (Q : Act → Prop) : List Nat → Act → Prop
  | [], a => Q a
  | i :: l, a => qOp P ops C i (wpIdx P ops C Q l) a
def idxB (md : Region.Mode) (ops : Array Oper) (n g : Nat) : List Nat → Array Bool → Bool
  | [], listed => Region.seqB md ops g n listed
  | k :: l, listed => decide (k < n) && (ops[k]?).isSome && (Region.ready md ops listed).contains k && Region.free md ops listed k && idxB md ops n g l (listed.setIfInBounds k true)
theorem wpHead_idx {n g : Nat} {Lq : Act → Prop} {l0 : Array Bool} (hsel : Region.noSelect ops = true) (hs : sinkL md ops n l0 = true) (hc : Region.chainB md ops n = true) :
    ∀ (l : List Nat) (listed : Array Bool) (a : Act), HeadInv md ops n listed → (∀ i, l0.getD i false = true → listed.getD i false = true) →
    idxB md ops n g l listed = true → wpIdx P ops C Lq l a →
    wpHead P md ops C n (fun listed' a' => Region.seqB md ops g n listed' = true ∧ Lq a') l.length listed a
  | [], listed, a, _, _, hB, h => ⟨hB, h⟩
  | k :: l, listed, a, inv, h0, hB, h => by
    simp only [idxB, Bool.and_eq_true, decide_eq_true_eq] at hB
    obtain ⟨⟨⟨⟨hkn, hk⟩, hr⟩, hf⟩, hB'⟩ := hB
    obtain ⟨o, ho⟩ := Option.isSome_iff_exists.1 hk
    have hr' : k ∈ Region.ready md ops listed := by simpa using hr
    obtain ⟨v, hy, hK⟩ := yieldsIn_of_qOp ho h
    exact wpHead_first ho (Region.noSelect_spec hsel) hs hc hkn (fun listed' a' hL => seqB_ready hL.1) l.length listed a inv h0 (Region.free_spec ho hf) hr' hy
      (wpHead_idx hsel hs hc l _ _ (inv.set hr' hkn) (getD_keep h0) hB' hK)
def stageB (md : Region.Mode) (ops : Array Oper) (n : Nat) (l0 : Array Bool) (idx : List Nat) : Bool :=
  Region.noSelect ops && sinkL md ops n l0 && Region.chainB md ops n && closedL md ops l0 && tailL ops n l0 && decide (l0.size = ops.size) && idxB md ops n (ops.size - n) idx l0
theorem wpAny_stage {Q : Exit → Act → World → Prop} {l : List Oper} {n : Nat} {l0 : Array Bool} {idx : List Nat} {a : Act} {w : World} {fuel : Nat} (hB : stageB .any l.toArray n l0 idx = true) (hf : fuel = idx.length + (l.toArray.size - n)) (hw : C w)
    (h : wpIdx P l.toArray C (fun a' => ∀ w', C w' → wpList P l.toArray Q (l.drop n) a' w') idx a) : wpAny P .any l.toArray Q fuel l0 a w := by
  simp only [stageB, Bool.and_eq_true, decide_eq_true_eq] at hB
  obtain ⟨⟨⟨⟨⟨⟨hsel, hs⟩, hc⟩, hcl⟩, ht⟩, hsz⟩, hi⟩ := hB
  subst hf
  have inv := inv_of (md := .any) hsz hcl ht
  refine wpAny_of_headQ (C := C) (g := l.toArray.size - n) ?_ _ _ _ _ hw (wpHead_idx hsel hs hc idx l0 a inv (fun _ h => h) hi h)
  intro listed a' w' hw' hL
  have hdl : (l.drop n).length = l.toArray.size - n := by simp
  have := wpAny_of_seq (md := .any) (Q' := Q) (l.drop n) n listed a' w' (fun j => by simp [List.getElem?_drop]) (by rw [hdl]; exact hL.1) (hL.2 w' hw')
  rwa [hdl] at this
end
section
variable {P : Program} {f : Fr} {n : Nat} {R : Ending → World → Prop} {k : List Item} {σ : Env} {w w0 : World} {L : List Seg}
def JI (D : List Deferred) (P : Program) (f : Fr) (n : Nat) (R : Ending → World → Prop) (l tl : List Oper) (C : World → Prop) (k : List Item) (idx : List Nat) (σ : Env) : Prop :=
  ∀ a, Ag D n σ a → wpIdx P l.toArray C (fun a' => ∀ w', C w' → wpList P l.toArray (Qk D P f n R k) tl a' w') idx a
theorem JA.stage {l tl : List Oper} {fuel : Nat} {listed : List Bool} (m : Nat) (idx : List Nat) (H : Hp w0 w L) (hB : stageB .any l.toArray m listed.toArray idx = true) (hf : fuel = idx.length + (l.length - m)) (htl : l.drop m = tl)
    (h : JI D P f n R l tl (fun w' => Hp w0 w' L) k idx σ) : JA D P f n R l.toArray fuel listed.toArray k σ w := by
  intro a ha
  subst htl
  exact wpAny_stage hB (by simpa using hf) H (h a ha)
variable {l tl : List Oper} {C : World → Prop} {idx : List Nat} {i : Nat} {o : Oper}
theorem JI.nil (h : ∀ w, C w → JL D P f n R l.toArray tl k σ w) : JI D P f n R l tl C k [] σ := fun a ha w hw => h w hw a ha
theorem JI.of {v : Value} (hi : l[i]? = some o) (hy : ∀ a, Ag D n σ a → YieldsIn P l.toArray C o v a) (h : JI D P f n R l tl C k idx (updO σ o.dst v)) : JI D P f n R l tl C k (i :: idx) σ :=
  fun a ha => (hy a ha).qOp (by simpa using hi) (h _ (ha.put _ _))
theorem JI.go {v : Value} (hi : l[i]? = some o) (hg : GOk n σ l.toArray o.guard) (hr : ∀ w, C w → Runs P (ev n σ) o w v) (h : JI D P f n R l tl C k idx (updO σ o.dst v)) : JI D P f n R l tl C k (i :: idx) σ :=
  JI.of hi (fun a ha => .inl ⟨by rw [funext (ha.yields l.toArray)]; exact hg.wanted, fun w hw => by unfold Oper.quietAt; rw [ha.eval, hr w hw]; exact ⟨rfl, rfl⟩⟩) h
end
end Go.Eng
namespace Go.Eng
open Go
variable {D : List Deferred}
section
variable {P : Program} {ρ : Operand → Value} {w w0 : World} {L : List Seg} {d : Option Tmp} {ty : TypeId} {pos : String} {af : Array Edge} {g : Option (Nat × Bool)} {x y : Operand}
theorem RX.ptrnil_eql {t t' : TypeId} {a : Option Addr} (hx : ρ x = .pointer a) (hy : ρ y = .pointer none) (h : P.underlying t = some (.pointer (P.pointee t))) : Runs P ρ ⟨d, .binOp .eql t x y t', ty, pos, af, g⟩ w (.bool a.isNone) := by
  unfold Runs
  simp [execOp, hx, hy, eqGuard_at_pointer, run_eql_pointer_nil w t a h]
theorem SlAt.behind {p : Option Addr} {xs : List Value} {cap r sz : Nat} (h : SlAt L p xs) (hc : xs.length ≤ cap * sz) : SlAt L (behind p cap r sz) (xs.drop (r * sz)) := by
  rcases h with rfl | ⟨b, off, C, T, fz, rfl, hm, hcell⟩
  · exact .inl (by simp)
  · unfold Eng.behind
    simp only
    split
    · rename_i hr
      exact .inl (List.drop_eq_nil_of_le (by rw [← hr]; exact hc))
    · refine .inr ⟨b, off + r * sz, C, T, fz, rfl, hm, fun j hj => ?_⟩
      rw [List.length_drop] at hj
      rw [List.getElem?_drop, ← hcell _ (by omega), Nat.add_assoc]
theorem SlAt.take {p : Option Addr} {xs : List Value} {n : Nat} (h : SlAt L p xs) : SlAt L p (xs.take n) := by
  have e : xs.take n ++ xs.drop n = xs := List.take_append_drop n xs
  rw [← e] at h
  exact h.pre
theorem readN_flat {α : Type} {f : α → List Value} {sz : Nat} (hf : ∀ x, (f x).length = sz) {l : List α} {i : Nat} {x : α} (hi : l[i]? = some x) : readN ((l.map f).flatten) (i * sz) sz = some (f x) := by
  have key : ∀ (l : List α) (i : Nat), l[i]? = some x → (((l.map f).flatten).drop (i * sz)).take sz = f x := by
    intro l
    induction l with
    | nil => intro i h; simp at h
    | cons a l ih =>
      intro i h
      cases i with
      | zero =>
        have h : a = x := by simpa using h
        subst h
        simp only [List.map_cons, List.flatten_cons, Nat.zero_mul, List.drop_zero]
        rw [← hf a, List.take_left]
      | succ i =>
        have h : l[i]? = some x := by simpa using h
        rw [List.map_cons, List.flatten_cons, List.drop_append, List.drop_eq_nil_of_le (by rw [hf, Nat.add_mul]; omega), hf, List.nil_append, show (i + 1) * sz - sz = i * sz by rw [Nat.add_mul]; omega]
        exact ih i h
  unfold readN
  simp only [key l i hi, hf, if_true]
end
end Go.Eng
namespace Go.Eng
open Go Go.RowKit Go.ChangeShapes Go.WideShapes
variable {D : List Deferred}
section
variable {P : Program} {f : FuncId} {n : Nat} {R : Ending → World → Prop} {k : List Item} {σ : Env} {w w0 : World} {L : List Seg}
theorem J.rettct {fn : Func} {a t T b o i sz u s : Nat} {l vs : List Value} {x y : Value} (hf : P.funcs[f]? = some fn) (h : fn.results = #[.tmp u, .cell a t, .tmp s]) (H : Hp w0 w L) (hp : ev n σ (.tmp a) = .pointer (some ⟨b, o, none⟩)) (hi : L[i]? = some [(b, cel l T)])
    (hv : readN l o sz = some vs) (ht : aggOf P t = some sz) (hx : ev n σ (.tmp u) = x) (hy : ev n σ (.tmp s) = y) (hR : R (.returned (.tuple #[x, .agg vs.toArray, y])) w) : J [] P (.fn f) n R (.code .ret :: k) σ w :=
  J.ret_of hf (fun a' ha => by
    have h1 := ha.tmp a
    have h2 := ha.tmp u
    have h3 := ha.tmp s
    rw [hp, Array.getD_eq_getD_getElem?] at h1
    rw [hx, Array.getD_eq_getD_getElem?] at h2
    rw [hy, Array.getD_eq_getD_getElem?] at h3
    simp [results, h, h1, h2, h3, asAddr, run_loadAgg H hi hv ht]) hR
end
end Go.Eng
namespace Go.Eng
open Go
variable {D : List Deferred}
section
variable {P : Program} {f : Fr} {n : Nat} {R : Ending → World → Prop} {k : List Item} {σ : Env} {w w0 : World} {o : Oper} {S : World → Prop} {ops : Array Oper}
def JH (D : List Deferred) (P : Program) (f : Fr) (n : Nat) (R : Ending → World → Prop) (ops : Array Oper) (S : World → Prop) (fuel : Nat) (listed : Array Bool) (k : List Item) (σ : Env) (w : World) : Prop :=
  ∀ a, Ag D n σ a → wpAnyH P .any ops (Qk D P f n R k) S fuel listed a w
theorem J.held {id : Nat} {l : List Oper} (S : World → Prop) (hm : P.follows .mixedOrders = true)
    (h : ∀ w', Same w w' → JH D P f n R l.toArray S l.length (falses l.length).toArray k σ w') (hp : f.plain l = true := by exact rfl) : J D P f n R (.code (.region id l.toArray true) :: k) σ w :=
  J.anyof hm (fun a ha => wpAny_of_held _ _ _ _ (by
    have := h { w with drawn := w.drawn + 1 } ⟨rfl, rfl, rfl, rfl⟩ a ha
    rw [falses_eq] at this
    simpa using this)) hp
theorem JH.take {fuel : Nat} {listed : List Bool} {l : List Oper} {v : Value} (i : Nat) {listed' : List Bool} (hi : l[i]? = some o)
    (hs : Region.noSelect l.toArray = true) (hf : Region.free .any l.toArray listed.toArray i = true) (hr : (Region.ready .any l.toArray listed.toArray).contains i = true)
    (hl : listed.set i true = listed') (hg : GOk n σ l.toArray o.guard) (hv : ∀ w, S w → Runs P (ev n σ) o w v) (hS : S w)
    (h : JH D P f n R l.toArray S fuel listed'.toArray k (updO σ o.dst v) w) : JH D P f n R l.toArray S (fuel + 1) listed.toArray k σ w := by
  intro a ha
  have hy : yielded l.toArray a.tmps = yieldE n σ l.toArray := funext (ha.yields _)
  refine wpAnyH_take (by simpa using hi) hs hf hr (fun c a w hq => by obtain ⟨he, _⟩ := hq; cases he) (v := v) ?_ hS ?_
  · exact .inl ⟨by rw [hy]; exact hg.wanted, fun w hw => by rw [ha.eval]; exact hv w hw⟩
  · rw [List.setIfInBounds_toArray, hl]
    exact h _ (ha.put _ _)
def JHO (D : List Deferred) (P : Program) (f : Fr) (n : Nat) (R : Ending → World → Prop) (ops : Array Oper) (S : World → Prop) (fuel : Nat) (listed : List Bool) (k : List Item) (σ : Env) (w : World) (i : Nat) : Prop :=
  ∀ a, Ag D n σ a → wpOp P ops (Qk D P f n R k) i (fun a' w' => S w' ∧ wpAnyH P .any ops (Qk D P f n R k) S fuel (listed.toArray.setIfInBounds i true) a' w') a w
theorem JH.all {fuel : Nat} {listed : List Bool} (rs : List Nat) (hr : Region.ready .any ops listed.toArray = rs) (hne : rs ≠ [])
    (h : allJO (JHO D P f n R ops S fuel listed k σ w) rs) : JH D P f n R ops S (fuel + 1) listed.toArray k σ w :=
  fun a ha => wpAnyH_all hr hne fun i hi => h.mem i hi a ha
theorem JHO.does {fuel : Nat} {listed : List Bool} {l : List Oper} {i : Nat} {listed' : List Bool} {Φ : Value → World → Prop} (hi : l[i]? = some o) (hl : listed.set i true = listed')
    (hg : GOk n σ l.toArray o.guard) (hd : Does P (ev n σ) o w Φ) (h : ∀ v w', Φ v w' → S w' ∧ JH D P f n R l.toArray S fuel listed'.toArray k (updO σ o.dst v) w') :
    JHO D P f n R l.toArray S fuel listed k σ w i := by
  intro a ha
  have hy : yielded l.toArray a.tmps = yieldE n σ l.toArray := funext (ha.yields _)
  have hi' : (l.toArray)[i]? = some o := by simpa using hi
  unfold wpOp
  simp only [hi', hy, hg.wanted, if_true, List.setIfInBounds_toArray, hl]
  exact .inl (wp_of_does (by rw [ha.eval]; exact hd) fun v w' hΦ => ⟨(h v w' hΦ).1, (h v w' hΦ).2 _ (ha.put _ _)⟩)
theorem JHO.go {fuel : Nat} {listed : List Bool} {l : List Oper} {i : Nat} {listed' : List Bool} {v : Value} (hi : l[i]? = some o) (hl : listed.set i true = listed')
    (hg : GOk n σ l.toArray o.guard) (hr : Runs P (ev n σ) o w v) (hS : S w) (h : JH D P f n R l.toArray S fuel listed'.toArray k (updO σ o.dst v) w) :
    JHO D P f n R l.toArray S fuel listed k σ w i :=
  JHO.does (Φ := fun u w' => u = v ∧ w' = w) hi hl hg (Does.of_run hr ⟨rfl, rfl⟩) fun _ _ ⟨hu, hw⟩ => by rw [hu, hw]; exact ⟨hS, h⟩
theorem JH.done {fuel : Nat} {listed : List Bool} (hr : Region.ready .any ops listed.toArray = []) (h : J D P f n R k σ w) : JH D P f n R ops S fuel listed.toArray k σ w :=
  fun a ha => wpAnyH_done hr ⟨rfl, ha.size, ha.defers, h a ha⟩ fuel
end
end Go.Eng
namespace Go.Eng
open Go
variable {D : List Deferred}
def OwnZ (e : TypeId) (p : Option Addr) (n cap : Nat) (xs : List Value) (s : Seg) : Prop :=
  xs.length = n ∧ ((p = none ∧ n = 0 ∧ cap = 0 ∧ s = []) ∨
    ∃ g l fz, p = some ⟨g, 0, none⟩ ∧ s = [(g, Obj.cells (List.toArray l) e fz)] ∧ n ≤ cap ∧ l.length = cap ∧ l.take n = xs ∧ ∀ k, n ≤ k → k < cap → ¬ (fz.1 ≤ k ∧ k < fz.2))
theorem OwnZ.nil {e : TypeId} : OwnZ e none 0 0 [] [] := ⟨rfl, .inl ⟨rfl, rfl, rfl, rfl⟩⟩
theorem OwnZ.slAt {e n cap : Nat} {p : Option Addr} {xs : List Value} {s : Seg} {L : List Seg} (h : OwnZ e p n cap xs s) : SlAt (s :: L) p xs := by
  obtain ⟨hl, ⟨rfl, rfl, rfl, rfl⟩ | ⟨g, l, fz, rfl, rfl, hn, hc, ht, _⟩⟩ := h
  · exact .inl (List.eq_nil_of_length_eq_zero hl)
  · refine .inr ⟨g, 0, _, _, _, rfl, List.mem_append_left _ (List.mem_singleton.2 rfl), fun j hj => ?_⟩
    rw [← ht, List.getElem?_take, if_pos (by omega)]
    simp
section
variable {P : Program} {ρ : Operand → Value} {w w0 : World} {L : List Seg} {d : Option Tmp} {ty : TypeId} {pos : String} {af : Array Edge} {g : Option (Nat × Bool)} {x y : Operand}
theorem Hp.setCellZ (h : Hp w0 w L) {i b : Nat} {l : List Value} {T : TypeId} {fz : Nat × Nat} (hi : L[i]? = some [(b, Obj.cells l.toArray T fz)]) (off : Nat) (v : Value) :
    Hp w0 (w.setCell ⟨b, off, none⟩ v) (L.set i [(b, Obj.cells (l.set off v).toArray T fz)]) := by
  have hb := h.get1 hi
  refine h.set hi (heap' := (w.setCell ⟨b, off, none⟩ v).heap) (by simp [World.setCell]) ?_ (fun c hc => RowKit.Below.heap_setCell _ _ _ _ hc)
  simp only [World.setCell, Array.getElem?_modify, if_true, hb]
  simp
theorem Hp.setCellsZ {i b : Nat} {T : TypeId} {fz : Nat × Nat} : ∀ (vs l : List Value) (w : World) (L : List Seg) (o : Nat), Hp w0 w L → L[i]? = some [(b, Obj.cells l.toArray T fz)] →
    Hp w0 (w.setCells b o vs) (L.set i [(b, Obj.cells (setN l o vs).toArray T fz)])
  | [], l, w, L, o, h, hi => by
    show Hp w0 w _
    rw [show setN l o [] = l from rfl, set_self hi]
    exact h
  | v :: vs, l, w, L, o, h, hi => by
    have h1 := h.setCellZ hi o v
    have h2 := Hp.setCellsZ vs (l.set o v) _ _ (o + 1) h1 (i := i) (by rw [List.getElem?_set_self]; exact getE_lt hi)
    rw [List.set_set] at h2
    exact h2
theorem setN_at : ∀ (vs l : List Value) (o : Nat), o + vs.length ≤ l.length → setN l o vs = l.take o ++ vs ++ l.drop (o + vs.length)
  | [], l, o, h => by simp [setN]
  | v :: vs, l, o, h => by
    simp only [List.length_cons] at h ⊢
    rw [setN, setN_at vs _ _ (by rw [List.length_set]; omega)]
    rw [List.take_set, List.take_add_one, List.drop_set_of_lt (by omega), List.getElem?_eq_getElem (show o < l.length by omega)]
    rw [List.set_append_right _ _ (by rw [List.length_take]; omega)]
    rw [List.length_take, Nat.min_eq_left (by omega), Nat.sub_self]
    simp
    congr 1; omega
theorem src_slice {tx e' m c : Nat} {q : Option Addr} {ys : List Value} (H : Hp w0 w L) (hk : P.underlying tx = some (.slice e')) (hs : SlAt L q ys) (hl : ys.length = m) (h1 : ∀ v ∈ ys, isCell v = true) : Src P 1 tx (.slice q m c) m ys w := by
  have h1' : ∀ u ∈ ys, u.oneCell' = true := fun u hu => by have := h1 u hu; cases u <;> first | rfl | cases this
  cases q with
  | none =>
    rcases hs with rfl | ⟨_, _, _, _, _, hq, _⟩
    · subst hl; exact Src.ofNil w hk c
    · cases hq
  | some a =>
    refine Src.ofSlice w hk a m c ys (by omega) (fun j u hj => ?_) h1'
    obtain ⟨b, off, hp, hc⟩ := H.slcell hs hj
    cases hp
    rw [Addr.add_lit]; exact hc
theorem EX.appendZ {t e tx i n cap m : Nat} {pa : Option Addr} {xs ys : List Value} {s : Seg} {yv : Value} {L' : Seg → List Seg} (H : Hp w0 w L) (he : Elem P t e 1 1)
    (hx : ρ x = .slice pa n cap) (hy : ρ y = yv) (hsrc : Src P 1 tx yv m ys w) (hi : L[i]? = some s) (ho : OwnZ e pa n cap xs s) (hb : n + m ≤ 140737488355328) (hL : ∀ s', L.set i s' = L' s') :
    Does P ρ ⟨d, .call { callee := .builtin .append, args := #[x, y], argTypes := #[t, tx] }, ty, pos, af, g⟩ w fun u w' =>
      ∃ pa' cap' s', u = .slice pa' (n + m) cap' ∧ OwnZ e pa' (n + m) cap' (xs ++ ys) s' ∧ Hp w0 w' (L' s') := by
  obtain ⟨hu, inf, z, hinf, hz, hsize, hbytes, hzs⟩ := he
  have hexec : ∀ u w', (Builtin.append_ #[t, tx] ty #[.slice pa n cap, yv]).run P w = .ok u w' →
      (execOp ρ ⟨d, .call { callee := .builtin .append, args := #[x, y], argTypes := #[t, tx] }, ty, pos, af, g⟩).run P w = .ok (.value u) w' := by
    intro u w' h
    simp only [execOp, resolve, invoke, builtin, Sem.run_bind, Sem.run_pure, Result.andThen_ok, List.map_toArray, List.map_cons, List.map_nil, hx, hy, h]
  have hyl : ys.length = m := by have := hsrc.newsLen; omega
  have hreplace : ∀ (w' : World) (b : Nat) (o : Obj), Hp w0 w' ([(b, o)] :: L) → Hp w0 w' (L' [(b, o)]) := by
    intro w' b o h
    rw [← hL]
    have h2 := h.pull (i + 1) (s := s) (by simpa using hi)
    simp only [List.eraseIdx_cons_succ] at h2
    have h3 := h2.drop
    refine perm_of_flatten h3 ?_
    have h4 : (L.set i [(b, o)])[i]? = some [(b, o)] := by
      rw [List.getElem?_set_self]; exact (List.getElem?_eq_some_iff.1 hi).1
    have h5 := get_perm h4
    rw [List.eraseIdx_set_eq] at h5
    exact h5.symm
  have hdrew : ∀ o, Hp w0 (w.drew.alloc o) ([(w.heap.size, o)] :: L) := fun o => (H.same (w' := w.drew) ⟨rfl, rfl, rfl, rfl⟩).alloc o
  have hcapge : ∀ old, n + m ≤ grownCap w (n + m) old e := fun old => grownCap_ge w (n + m) old e
  have hzc : ∀ old, (Builtin.zeroCells z.cells (grownCap w (n + m) old e - (n + m))).size = grownCap w (n + m) old e - (n + m) := fun old => by rw [len_zeroCells, hzs, Nat.mul_one]
  have hxl := ho.1
  by_cases hroom : n + m ≤ cap
  · obtain ⟨hlen, ⟨rfl, rfl, rfl, rfl⟩ | ⟨gb, l, fz, rfl, rfl, hnc, hlc, htk, hfz⟩⟩ := ho
    · have h0 : m = 0 := by omega
      subst h0
      have hys : ys = [] := List.eq_nil_of_length_eq_zero hyl
      subst hys
      refine Does.of_run (v := .slice none (0 + 0) 0) (w' := w) (hexec _ _ ?_) ⟨none, 0, [], rfl, ⟨by rw [List.append_nil]; exact hlen, .inl ⟨rfl, rfl, rfl, rfl⟩⟩, ?_⟩
      · have hl := hsrc.len w
        have hc := hsrc.cells
        rcases hsrc.kind with ⟨e', hk⟩ | hk <;> simp [Builtin.append_, run_underlying hu, run_underlying hk, sizeOf, typeInfo, hinf, hsize, hl, hc, storeCells]
      · rw [← hL, set_self hi]; exact H
    · have hobj := H.get1 hi
      have hcl : ∀ k, w.cell? ⟨gb, k, none⟩ = l[k]? := fun k => by simp [World.cell?, hobj]
      have hfr : ∀ k, n ≤ k → k < cap → w.frozen? ⟨gb, k, none⟩ = false := fun k hn hk => by
        have h := hfz k hn hk
        obtain ⟨lo, hi'⟩ := fz
        simp only [World.frozen?, hobj] at h ⊢
        by_cases h1 : lo ≤ k
        · rw [decide_eq_false (show ¬ k < hi' from fun h2 => h ⟨h1, h2⟩), Bool.and_false]
        · rw [decide_eq_false h1, Bool.false_and]
      have hr := run_append_room_src (P := P) w t tx ty e inf hu hinf gb 0 n cap yv m ys (by rw [hsize]; exact hsrc) hroom
        (fun j hj => by rw [hcl, hsize, List.getElem?_eq_getElem (by omega)]; rfl) (fun j hj => hfr _ (by rw [hsize]; omega) (by rw [hsize]; omega))
      rw [hsize, Nat.mul_one, Nat.zero_add] at hr
      refine Does.of_run (hexec _ _ hr) ⟨_, cap, [(gb, Obj.cells (setN l n ys).toArray e fz)], rfl, ⟨by rw [List.length_append]; omega, .inr ⟨gb, _, fz, rfl, rfl, hroom, by rw [setN_len]; exact hlc, ?_, fun k h1 h2 => hfz k (by omega) h2⟩⟩, ?_⟩
      · rw [setN_at _ _ _ (by omega), htk, ← hyl, ← hlen, ← List.length_append, List.take_left]
      · rw [← hL]
        exact Hp.setCellsZ ys l w L n H hi
  · have hold : (Builtin.firstCells inf.size n (.slice pa n cap)).run P w.drew = .ok xs.toArray w.drew := by
      rw [hsize]
      obtain ⟨hlen, ⟨rfl, rfl, rfl, rfl⟩ | ⟨gb, l, fz, rfl, rfl, hnc, hlc, htk, hfz⟩⟩ := ho
      · have : xs = [] := List.eq_nil_of_length_eq_zero hlen
        subst this
        exact run_firstCells_none w.drew 1 0 0 0
      · have hobj := H.get1 hi
        refine run_firstCells_some w.drew 1 n ⟨gb, 0, none⟩ n cap xs (by omega) fun j v hj => ?_
        have hcl : w.cell? ⟨gb, 0 + j, none⟩ = l[0 + j]? := by simp [World.cell?, hobj]
        rw [Addr.add_lit]
        show w.cell? ⟨gb, 0 + j, none⟩ = some v
        obtain ⟨hlt, _⟩ := List.getElem?_eq_some_iff.1 hj
        rw [hcl, Nat.zero_add]
        rw [← htk, List.getElem?_take, if_pos (by omega)] at hj
        exact hj
    have hr := run_append_grow_src (P := P) w t tx ty e inf z hu hinf hz pa n cap xs hold yv m ys (by rw [hsize]; exact hsrc) (by omega) (by omega) (growslice_fits (by omega) (by rw [hbytes]; omega))
    refine Does.of_run (hexec _ _ hr) ⟨_, _, [(w.heap.size, Obj.cells (xs ++ ys ++ (Builtin.zeroCells z.cells (grownCap w (n + m) cap e - (n + m))).toList).toArray e (0, 0))], rfl,
      ⟨by rw [List.length_append]; omega, .inr ⟨_, _, (0, 0), rfl, rfl, hcapge cap, ?_, ?_, fun k _ _ h => by simp only at h; omega⟩⟩, ?_⟩
    · have := hcapge cap
      simp only [List.length_append, Array.length_toList, hzc]; omega
    · rw [show n + m = (xs ++ ys).length by rw [List.length_append]; omega]
      exact List.take_left
    · have h5 := hreplace _ _ _ (hdrew (.cells ((xs ++ ys).toArray ++ Builtin.zeroCells z.cells (grownCap w (n + m) cap e - (n + m))) e))
      have h6 : (Obj.cells (xs ++ ys ++ (Builtin.zeroCells z.cells (grownCap w (n + m) cap e - (n + m))).toList).toArray e (0, 0)) = .cells ((xs ++ ys).toArray ++ Builtin.zeroCells z.cells (grownCap w (n + m) cap e - (n + m))) e := by
        congr 1; apply Array.ext'; simp
      rw [h6]; exact h5
end
end Go.Eng
namespace Go.Eng
open Go
variable {D : List Deferred}
def RetP (P : Program) (g : FuncId) (l : List Value) (w : World) (Φ Ψ : Value → World → Prop) : Prop :=
  Calls P g l.toArray w fun e w' => (∃ v, e = .returned v ∧ Φ v w') ∨ ∃ v, e = .panicked [{ v := v, recovered := false }] ∧ Ψ v w'
def DoesPR (P : Program) (Φ Ψ : Value → World → Prop) : Result Next → Prop
  | .ok (.value v) w' => Φ v w'
  | .ok .skip w' => Φ undef w'
  | .ok (.enter g args) w' => Calls P g args w' fun e w'' => (∃ v, e = .returned v ∧ Φ v w'') ∨ ∃ v, e = .panicked [{ v := v, recovered := false }] ∧ Ψ v w''
  | .halt (.panic v) w' => Ψ v w'
  | _ => False
def DoesP (P : Program) (ρ : Operand → Value) (o : Oper) (w : World) (Φ Ψ : Value → World → Prop) : Prop := DoesPR P Φ Ψ ((execOp ρ o).run P w)
def Qp (D : List Deferred) (P : Program) (f : FuncId) (n : Nat) (R : Ending → World → Prop) (k : List Item) (e : Exit) (a : Act) (w : World) : Prop :=
  Qk D P (.fn f) n R k e a w ∨ ∃ ch fn, e = .panic ch ∧ P.funcs[f]? = some fn ∧ Leaves P fn a.tmps R a.defers (.panicking ch) w
def JLP (D : List Deferred) (P : Program) (f : FuncId) (n : Nat) (R : Ending → World → Prop) (ops : Array Oper) (l : List Oper) (k : List Item) (σ : Env) (w : World) : Prop :=
  ∀ a, Ag D n σ a → wpList P ops (Qp D P f n R k) l a w
def JAP (D : List Deferred) (P : Program) (f : FuncId) (n : Nat) (R : Ending → World → Prop) (ops : Array Oper) (fuel : Nat) (listed : Array Bool) (k : List Item) (σ : Env) (w : World) : Prop :=
  ∀ a, Ag D n σ a → wpAny P .any ops (Qp D P f n R k) fuel listed a w
def JOP (D : List Deferred) (P : Program) (f : FuncId) (n : Nat) (R : Ending → World → Prop) (ops : Array Oper) (fuel : Nat) (listed : List Bool) (k : List Item) (σ : Env) (w : World) (i : Nat) : Prop :=
  ∀ a, Ag D n σ a → wpOp P ops (Qp D P f n R k) i (wpAny P .any ops (Qp D P f n R k) fuel (listed.toArray.setIfInBounds i true)) a w
section
variable {P : Program} {f : FuncId} {n : Nat} {R : Ending → World → Prop} {k : List Item} {σ : Env} {w w0 : World} {ops : Array Oper} {o : Oper} {rest : List Oper}
theorem J.regionP_of {id : Nat} {dr : Bool} (h : ∀ a, Ag D n σ a → (Code.region id ops dr).wp P (Qp D P f n R k) a w) : J D P (.fn f) n R (.code (.region id ops dr) :: k) σ w := by
  intro a ha
  refine jk_of ?_
  intro b hb hk cs
  obtain ⟨e, a', w', hq, harr⟩ := h a ha b k cs
  rcases hq with ⟨rfl, _, _, hj⟩ | ⟨ch, fn, rfl, hf, hl⟩
  · obtain ⟨e2, w2, fr, hR, hc, hfn, hl⟩ := jk_to hj b hb hk cs
    exact ⟨e2, w2, fr, hR, Comes.of_steps harr hc, hfn, hl⟩
  · obtain ⟨todo, hs⟩ := harr
    obtain ⟨e', w'', fr', hR, hs', hfn, hlv⟩ := leaves_steps a'.defers (.panicking ch) w' { b.at a' todo with mode := .panicking ch } cs rfl rfl rfl (by show P.funcs[b.fn]? = some fn; rw [hb]; exact hf) hk hl
    exact ⟨e', w'', fr', hR, Comes.of_steps hs hs', hfn.trans hb, hlv⟩
theorem J.regionP {id : Nat} {l : List Oper} (h : JLP D P f n R l.toArray l k σ w) : J D P (.fn f) n R (.code (.region id l.toArray false) :: k) σ w :=
  J.regionP_of fun a ha => wp_region_lit (h a ha)
theorem JLP.nil (h : J D P (.fn f) n R k σ w) : JLP D P f n R ops [] k σ w :=
  fun a ha => wpList_nil (.inl ⟨rfl, ha.size, ha.defers, h a ha⟩)
theorem wp_of_doesP {a : Act} {Φ Ψ : Value → World → Prop} {K : Act → World → Prop} {Q : Exit → Act → World → Prop} (h : DoesP P a.eval o w Φ Ψ) (hK : ∀ v w', Φ v w' → K (a.put o.dst v) w')
    (hP : ∀ v w', Ψ v w' → Q (.panic [{ v := v, recovered := false }]) a w') : o.wp P a w K Q := by
  unfold DoesP at h
  unfold Oper.wp
  revert h
  generalize (execOp a.eval o).run P w = r
  intro h
  cases r with
  | halt x w' =>
    cases x with
    | panic v => exact hP _ _ h
    | _ => exact h.elim
  | ok x w' =>
    cases x with
    | value v => exact hK _ _ h
    | skip => exact hK _ _ h
    | enter g args =>
      refine Calls.mono h fun e w'' h => ?_
      rcases h with ⟨v, he, hΦ⟩ | ⟨v, he, hΨ⟩
      · rw [he]; exact hK _ _ hΦ
      · rw [he]; exact hP _ _ hΨ
    | _ => exact h.elim
theorem qp_panic {fn : Func} {a : Act} {v : Value} (hf : P.funcs[f]? = some fn) (ha : Ag [] n σ a) (h : R (.panicked [{ v := v, recovered := false }]) w) : Qp [] P f n R k (.panic [{ v := v, recovered := false }]) a w :=
  .inr ⟨_, fn, rfl, hf, by rw [ha.defers]; exact h⟩
theorem JLP.doesP {fn : Func} {Φ Ψ : Value → World → Prop} (hf : P.funcs[f]? = some fn) (hg : GOk n σ ops o.guard) (hd : DoesP P (ev n σ) o w Φ Ψ)
    (hp : ∀ v w', Ψ v w' → R (.panicked [{ v := v, recovered := false }]) w') (h : ∀ v w', Φ v w' → JLP [] P f n R ops rest k (updO σ o.dst v) w') : JLP [] P f n R ops (o :: rest) k σ w := by
  intro a ha
  have hy : yielded ops a.tmps = yieldE n σ ops := funext (ha.yields ops)
  simp only [wpList, hy, hg.wanted, if_true]
  exact .inl (wp_of_doesP (by rw [ha.eval]; exact hd) (fun v w' hΦ => h v w' hΦ _ (ha.put _ _)) fun v w' hΨ => qp_panic hf ha (hp v w' hΨ))
theorem JLP.doesL {fn : Func} {Φ Ψ : Value → World → Prop} (hf : P.funcs[f]? = some fn) (hg : GOk n σ ops o.guard) (hd : DoesP P (ev n σ) o w Φ Ψ)
    (hp : ∀ v w', Ψ v w' → ∀ a, Ag D n σ a → Leaves P fn a.tmps R D (.panicking [{ v := v, recovered := false }]) w') (h : ∀ v w', Φ v w' → JLP D P f n R ops rest k (updO σ o.dst v) w') : JLP D P f n R ops (o :: rest) k σ w := by
  intro a ha
  have hy : yielded ops a.tmps = yieldE n σ ops := funext (ha.yields ops)
  simp only [wpList, hy, hg.wanted, if_true]
  exact .inl (wp_of_doesP (by rw [ha.eval]; exact hd) (fun v w' hΦ => h v w' hΦ _ (ha.put _ _)) fun v w' hΨ => .inr ⟨_, fn, rfl, hf, by rw [ha.defers]; exact hp v w' hΨ a ha⟩)
theorem JLP.does {Φ : Value → World → Prop} (hg : GOk n σ ops o.guard) (hd : Does P (ev n σ) o w Φ)
    (h : ∀ v w', Φ v w' → JLP D P f n R ops rest k (updO σ o.dst v) w') : JLP D P f n R ops (o :: rest) k σ w := by
  intro a ha
  have hy : yielded ops a.tmps = yieldE n σ ops := funext (ha.yields ops)
  simp only [wpList, hy, hg.wanted, if_true]
  refine .inl (wp_of_does (by rw [ha.eval]; exact hd) fun v w' hΦ => h v w' hΦ _ (ha.put _ _))
theorem JLP.go {v : Value} (hg : GOk n σ ops o.guard) (hr : Runs P (ev n σ) o w v) (h : JLP D P f n R ops rest k (updO σ o.dst v) w) : JLP D P f n R ops (o :: rest) k σ w :=
  JLP.does (Φ := fun u w' => u = v ∧ w' = w) hg (Does.of_run hr ⟨rfl, rfl⟩) fun _ _ ⟨hu, hw⟩ => by rw [hu, hw]; exact h
theorem J.anyP {id : Nat} {l : List Oper} (hm : P.follows .mixedOrders = true)
    (h : ∀ w', Same w w' → JAP D P f n R l.toArray l.length (falses l.length).toArray k σ w') : J D P (.fn f) n R (.code (.region id l.toArray true) :: k) σ w :=
  J.regionP_of fun a ha => wp_region_any hm (by
    have := h { w with drawn := w.drawn + 1 } ⟨rfl, rfl, rfl, rfl⟩ a ha
    rw [falses_eq] at this
    simpa using this)
theorem JAP.all {fuel : Nat} {listed : List Bool} (rs : List Nat) (hr : Region.ready .any ops listed.toArray = rs) (hne : rs ≠ [])
    (h : allJO (JOP D P f n R ops fuel listed k σ w) rs) : JAP D P f n R ops (fuel + 1) listed.toArray k σ w :=
  fun a ha => wpAny_all hr hne fun i hi => h.mem i hi a ha
theorem JAP.done {fuel : Nat} {listed : List Bool} (hr : Region.ready .any ops listed.toArray = []) (h : J D P (.fn f) n R k σ w) : JAP D P f n R ops fuel listed.toArray k σ w :=
  fun a ha => wpAny_done hr (.inl ⟨rfl, ha.size, ha.defers, h a ha⟩) fuel
theorem JOP.doesP {fn : Func} {fuel : Nat} {listed : List Bool} {l : List Oper} {i : Nat} {listed' : List Bool} {Φ Ψ : Value → World → Prop} (hi : l[i]? = some o) (hl : listed.set i true = listed')
    (hf : P.funcs[f]? = some fn) (hg : GOk n σ l.toArray o.guard) (hd : DoesP P (ev n σ) o w Φ Ψ) (hp : ∀ v w', Ψ v w' → R (.panicked [{ v := v, recovered := false }]) w')
    (h : ∀ v w', Φ v w' → JAP [] P f n R l.toArray fuel listed'.toArray k (updO σ o.dst v) w') : JOP [] P f n R l.toArray fuel listed k σ w i := by
  intro a ha
  have hy : yielded l.toArray a.tmps = yieldE n σ l.toArray := funext (ha.yields _)
  have hi' : (l.toArray)[i]? = some o := by simpa using hi
  unfold wpOp
  simp only [hi', hy, hg.wanted, if_true, List.setIfInBounds_toArray, hl]
  exact .inl (wp_of_doesP (by rw [ha.eval]; exact hd) (fun v w' hΦ => h v w' hΦ _ (ha.put _ _)) fun v w' hΨ => qp_panic hf ha (hp v w' hΨ))
theorem JOP.does {fuel : Nat} {listed : List Bool} {l : List Oper} {i : Nat} {listed' : List Bool} {Φ : Value → World → Prop} (hi : l[i]? = some o) (hl : listed.set i true = listed')
    (hg : GOk n σ l.toArray o.guard) (hd : Does P (ev n σ) o w Φ) (h : ∀ v w', Φ v w' → JAP D P f n R l.toArray fuel listed'.toArray k (updO σ o.dst v) w') :
    JOP D P f n R l.toArray fuel listed k σ w i := by
  intro a ha
  have hy : yielded l.toArray a.tmps = yieldE n σ l.toArray := funext (ha.yields _)
  have hi' : (l.toArray)[i]? = some o := by simpa using hi
  unfold wpOp
  simp only [hi', hy, hg.wanted, if_true, List.setIfInBounds_toArray, hl]
  exact .inl (wp_of_does (by rw [ha.eval]; exact hd) fun v w' hΦ => h v w' hΦ _ (ha.put _ _))
theorem JOP.go {fuel : Nat} {listed : List Bool} {l : List Oper} {i : Nat} {listed' : List Bool} {v : Value} (hi : l[i]? = some o) (hl : listed.set i true = listed')
    (hg : GOk n σ l.toArray o.guard) (hr : Runs P (ev n σ) o w v) (h : JAP D P f n R l.toArray fuel listed'.toArray k (updO σ o.dst v) w) :
    JOP D P f n R l.toArray fuel listed k σ w i :=
  JOP.does (Φ := fun u w' => u = v ∧ w' = w) hi hl hg (Does.of_run hr ⟨rfl, rfl⟩) fun _ _ ⟨hu, hw⟩ => by rw [hu, hw]; exact h
theorem J.region_into {D' : List Deferred} {id : Nat} {dr : Bool} (h : ∀ a, Ag D n σ a → (Code.region id ops dr).wp P (Qk D' P (.fn f) n R k) a w) : J D P (.fn f) n R (.code (.region id ops dr) :: k) σ w := by
  intro a ha
  refine jk_of ?_
  intro b hb hk cs
  obtain ⟨e, a', w', ⟨rfl, _, _, hj⟩, harr⟩ := h a ha b k cs
  obtain ⟨e2, w2, fr, hR, hc, hfn, hl⟩ := jk_to hj b hb hk cs
  exact ⟨e2, w2, fr, hR, Comes.of_steps harr hc, hfn, hl⟩
theorem J.defer {id : Nat} {o1 o2 : Oper} {v : Value} {d : Deferred} (hg1 : o1.guard = none) (hr1 : Runs P (ev n σ) o1 w v) (hg2 : o2.guard = none) (hn2 : o2.dst = none)
    (hr2 : (execOp (ev n (updO σ o1.dst v)) o2).run P w = .ok (.defer d) w) (h : J (d :: D) P (.fn f) n R k (updO σ o1.dst v) w) : J D P (.fn f) n R (.code (.region id [o1, o2].toArray false) :: k) σ w := by
  refine J.region_into (D' := d :: D) fun a ha => wp_region_lit ?_
  have w1 : ∀ y, Region.wanted o1 y = true := fun y => by simp [Region.wanted, hg1]
  have w2 : ∀ y, Region.wanted o2 y = true := fun y => by simp [Region.wanted, hg2]
  simp only [wpList, w1, w2, if_true]
  refine .inl (wp_of_does (by rw [ha.eval]; exact Does.of_run (Φ := fun u w' => u = v ∧ w' = w) hr1 ⟨rfl, rfl⟩) ?_)
  intro u w2 hu
  obtain ⟨rfl, rfl⟩ := hu
  refine .inl ?_
  have h2 := ha.put o1.dst u
  unfold Oper.wp
  rw [h2.eval, hr2]
  simp only [Oper.upon, hn2, Act.put]
  have hag : Ag (d :: D) n (updO σ o1.dst u) { a.put o1.dst u with defers := d :: (a.put o1.dst u).defers } := ⟨h2.size, h2.at_, by rw [h2.defers]⟩
  exact ⟨rfl, h2.size, hag.defers, h _ hag⟩
theorem J.ret_leaves {fn : Func} (hf : P.funcs[f]? = some fn) (h : ∀ a, Ag D n σ a → Leaves P fn a.tmps R D .returning w) : J D P (.fn f) n R (.code .ret :: k) σ w := by
  intro a ha
  refine jk_of ?_
  intro b hb hk cs
  obtain ⟨e', w'', fr', hR, hs', hfn, hlv⟩ := leaves_steps a.defers .returning w { b.at a (.code .ret :: k) with mode := .returning } cs rfl rfl rfl (by show P.funcs[b.fn]? = some fn; rw [hb]; exact hf) hk (by rw [ha.defers]; exact h a ha)
  exact ⟨e', w'', fr', hR, Comes.of_steps (.one step_ret) hs', hfn.trans hb, hlv⟩
end
section
variable {P : Program} {ρ : Operand → Value} {w w0 : World} {L : List Seg} {d : Option Tmp} {ty : TypeId} {pos : String} {af : Array Edge} {g : Option (Nat × Bool)} {x y : Operand}
theorem EX.callP {f : FuncId} {as9 : List Operand} {ats : Array TypeId} {l : List Value} {Φ Ψ : Value → World → Prop} (hρ : ρ (.func f) = .func (.func f) #[] #[]) (hf : callable P f = true) (ha : as9.map ρ = l) (hc : RetP P f l w Φ Ψ) :
    DoesP P ρ ⟨d, .call { callee := .value (.func f), args := as9.toArray, argTypes := ats }, ty, pos, af, g⟩ w Φ Ψ := by
  have h : (execOp ρ ⟨d, .call { callee := .value (.func f), args := as9.toArray, argTypes := ats }, ty, pos, af, g⟩).run P w = .ok (.enter f l.toArray) w := run_callq hρ hf ha
  unfold DoesP
  rw [h]
  exact hc
theorem EX.panic {t : TypeId} {v : Value} (hx : ρ x = .iface t v) : DoesP P ρ ⟨d, .panic x, ty, pos, af, g⟩ w (fun _ _ => False) fun u w' => u = .iface t v ∧ w' = w := by
  unfold DoesP
  have h : (execOp ρ ⟨d, .panic x, ty, pos, af, g⟩).run P w = .halt (.panic (.iface t v)) w := by simp [execOp, hx, Instr.panic]
  rw [h]
  exact ⟨rfl, rfl⟩
theorem RX.makeInterface {t : TypeId} {v : Value} (hx : ρ x = v) (ht : P.concrete t = true) : Runs P ρ ⟨d, .makeInterface t x, ty, pos, af, g⟩ w (.iface t v) := by
  unfold Runs
  simp [execOp, hx, run_makeInterface w t v ht]
theorem run_defer {c : Operand} {f : FuncId} {fv cv : Array Value} {ats : Array TypeId} (hv : ρ c = .func (.func f) fv cv) :
    (execOp ρ ⟨d, .defer { callee := .value c, args := #[], argTypes := ats }, ty, pos, af, g⟩).run P w = .ok (.defer { target := .fn (.func f) cv, args := fv }) w := by
  simp [execOp, resolve, hv, Deferred.ofValue]
end
section
variable {P : Program} {f : FuncId} {n : Nat} {R : Ending → World → Prop} {k : List Item} {σ : Env} {w w0 : World} {L : List Seg}
theorem J.retctt {fn : Func} {a t T b o i sz u s : Nat} {l vs : List Value} {x y : Value} (hf : P.funcs[f]? = some fn) (h : fn.results = #[.cell a t, .tmp u, .tmp s]) (H : Hp w0 w L) (hp : ev n σ (.tmp a) = .pointer (some ⟨b, o, none⟩)) (hi : L[i]? = some [(b, cel l T)])
    (hv : readN l o sz = some vs) (ht : aggOf P t = some sz) (hx : ev n σ (.tmp u) = x) (hy : ev n σ (.tmp s) = y) (hR : R (.returned (.tuple #[.agg vs.toArray, x, y])) w) : J [] P (.fn f) n R (.code .ret :: k) σ w :=
  J.ret_of hf (fun a' ha => by
    have h1 := ha.tmp a
    have h2 := ha.tmp u
    have h3 := ha.tmp s
    rw [hp, Array.getD_eq_getD_getElem?] at h1
    rw [hx, Array.getD_eq_getD_getElem?] at h2
    rw [hy, Array.getD_eq_getD_getElem?] at h3
    simp [results, h, h1, h2, h3, asAddr, run_loadAgg H hi hv ht]) hR
end
end Go.Eng
namespace Go.Eng
open Go
variable {D : List Deferred}
structure Fair (F : Fence) : Prop where
  fn : ∀ f, F.fn f
  depth : F.depth = none
  lift : ∀ (P : Program) (f : FuncId) (args : Array Value) (w : World) (R : Ending → World → Prop), Calls P f args w R → CallsIn F 0 P f args w R
theorem fair_wide : Fair Fence.wide := ⟨fun _ => trivial, rfl, fun _ _ _ _ _ h => callsIn_wide.2 h⟩
def DoesInR (F : Fence) (P : Program) (Φ : Value → World → Prop) : Result Next → Prop
  | .ok (.value v) w' => Φ v w'
  | .ok .skip w' => Φ undef w'
  | .ok (.enter g args) w' => CallsIn F 0 P g args w' fun e w'' => ∃ v, e = .returned v ∧ Φ v w''
  | .ok (.round l f tmps assign body) w' => RoundIn F 0 P l f tmps assign body w' fun e w'' => ∃ v, e = .returned v ∧ Φ v w''
  | _ => False
def DoesIn (F : Fence) (P : Program) (ρ : Operand → Value) (o : Oper) (w : World) (Φ : Value → World → Prop) : Prop := DoesInR F P Φ ((execOp ρ o).run P w)
section
variable {F : Fence} {P : Program} {f : FuncId} {n : Nat} {R : Ending → World → Prop} {k : List Item} {σ : Env} {w w0 : World} {ops : Array Oper} {o : Oper} {rest : List Oper} {Q : Exit → Act → World → Prop}
theorem wpIn_of_does {a : Act} {Φ : Value → World → Prop} {K : Act → World → Prop} (hF : Fair F) (hp : plainOp o.op = true) (h : DoesIn F P a.eval o w Φ) (hK : ∀ v w', Φ v w' → K (a.put o.dst v) w') : o.wpIn F 0 P a w K Q := by
  refine ⟨fun f _ => hF.fn f, ?_⟩
  rw [Oper.semAt_eq _ _ _ (plainOp.ne hp)]
  unfold DoesIn at h
  revert h
  generalize (execOp a.eval o).run P w = r
  intro h
  cases r with
  | halt x w' => exact h.elim
  | ok x w' =>
    cases x with
    | value v => exact hK _ _ h
    | skip => exact hK _ _ h
    | enter g args => exact ⟨fun hd => (by rw [hF.depth] at hd; cases hd), CallsIn.mono h fun e w'' ⟨v, he, hΦ⟩ => by rw [he]; exact hK _ _ hΦ⟩
    | round l g tmps assign body => exact ⟨fun hd => (by rw [hF.depth] at hd; cases hd), RoundIn.mono h fun e w'' ⟨v, he, hΦ⟩ => by rw [he]; exact hK _ _ hΦ⟩
    | _ => exact h.elim
theorem DoesIn.of_does {ρ : Operand → Value} {Φ : Value → World → Prop} (hF : Fair F) (h : Does P ρ o w Φ) : DoesIn F P ρ o w Φ := by
  unfold Does at h
  unfold DoesIn
  revert h
  generalize (execOp ρ o).run P w = r
  intro h
  cases r with
  | halt x w' => exact h.elim
  | ok x w' =>
    cases x with
    | value v => exact h
    | skip => exact h
    | enter g args => exact hF.lift _ _ _ _ _ h
    | _ => exact h.elim
def FL (F : Fence) (D : List Deferred) (P : Program) (n : Nat) (Q : Exit → Act → World → Prop) (ops : Array Oper) (l : List Oper) (σ : Env) (w : World) : Prop := ∀ a, Ag D n σ a → wpListIn F 0 P ops Q l a w
theorem FL.doesIn {Φ : Value → World → Prop} (hF : Fair F) (hp : plainOp o.op = true) (hg : GOk n σ ops o.guard) (hd : DoesIn F P (ev n σ) o w Φ) (h : ∀ v w', Φ v w' → FL F D P n Q ops rest (updO σ o.dst v) w') : FL F D P n Q ops (o :: rest) σ w := by
  intro a ha
  have hy : yielded ops a.tmps = yieldE n σ ops := funext (ha.yields ops)
  simp only [wpListIn, hy, hg.wanted, if_true]
  exact wpIn_of_does hF hp (by rw [ha.eval]; exact hd) fun v w' hΦ => h v w' hΦ _ (ha.put _ _)
theorem FL.does {Φ : Value → World → Prop} (hF : Fair F) (hp : plainOp o.op = true) (hg : GOk n σ ops o.guard) (hd : Does P (ev n σ) o w Φ) (h : ∀ v w', Φ v w' → FL F D P n Q ops rest (updO σ o.dst v) w') : FL F D P n Q ops (o :: rest) σ w :=
  FL.doesIn hF hp hg (.of_does hF hd) h
theorem FL.go {v : Value} (hF : Fair F) (hp : plainOp o.op = true) (hg : GOk n σ ops o.guard) (hr : Runs P (ev n σ) o w v) (h : FL F D P n Q ops rest (updO σ o.dst v) w) : FL F D P n Q ops (o :: rest) σ w :=
  FL.does (Φ := fun u w' => u = v ∧ w' = w) hF hp hg (Does.of_run hr ⟨rfl, rfl⟩) fun _ _ ⟨hu, hw⟩ => by rw [hu, hw]; exact h
theorem FL.nil (h : ∀ a, Ag D n σ a → Q .normal a w) : FL F D P n Q ops [] σ w := fun a ha => wpListIn_nil (h a ha)
theorem EX.yield {ρ : Operand → Value} {d : Option Tmp} {ty : TypeId} {pos : String} {af : Array Edge} {g : Option (Nat × Bool)} {c : Operand} {as9 : List Operand} {ats : Array TypeId} {args : List Value} {l : Nat} {Φ : Value → World → Prop}
    (hv : ρ c = .func (.yield l) #[] #[]) (ha : as9.map ρ = args) (h : YieldAt F 0 P l args.toArray w fun e w' => ∃ v, e = .returned v ∧ Φ v w') :
    DoesIn F P ρ ⟨d, .call { callee := .value c, args := as9.toArray, argTypes := ats }, ty, pos, af, g⟩ w Φ := by
  obtain ⟨fn, tmps, assign, body, hy, hR⟩ := h
  have hrun : (execOp ρ ⟨d, .call { callee := .value c, args := as9.toArray, argTypes := ats }, ty, pos, af, g⟩).run P w = .ok (.round l fn tmps assign body) w := by
    simp [execOp, resolve, Sem.run_bind, List.map_toArray, ha, hv, Deferred.ofValue, invoke, hy]
  unfold DoesIn
  rw [hrun]
  exact hR
theorem Hp.putObj {L : List Seg} {i b : Nat} {o o' : Obj} (H : Hp w0 w L) (hi : L[i]? = some [(b, o)]) : Hp w0 (w.putObj b o') (L.set i [(b, o')]) := by
  have hb := H.get1 hi
  have hlt := (Array.getElem?_eq_some_iff.1 hb).1
  exact H.set hi (heap' := (w.putObj b o').heap) (by simp [World.putObj]) (World.putObj_heap_same hlt) (fun c hc => World.putObj_heap_other hc)
def loopObj (st : LoopState) (f : FuncId) (tmps : Array Value) (ps : Array Tmp) (assign body : Code) (r : Nat) : Obj := .loop { state := st, pending := none, fn := f, tmps := tmps, params := ps, assign := assign, body := body, defers := r }
theorem J.rangeFunc {g : Operand} {ps : Array Tmp} {assign body : Code} {gf : FuncId} {fv cv args : List Value} {L : List Seg} (H : Hp w0 w L)
    (hg : ev n σ g = .func (.func gf) fv.toArray cv.toArray) (hc : callable P gf = true)
    (hargs : fv ++ [Value.func (.yield (w.heap.size + 1)) #[] #[]] ++ cv = args)
    (h : ∀ r l a w1, l = w.heap.size + 1 → Ag [] n σ a → Hp w0 w1 ([(l, loopObj .ready f a.tmps ps assign body r)] :: [(r, Obj.deferred (some []))] :: L) →
      Ret P gf args w1 fun _ w3 => ∃ (i : Nat) (L3 : List Seg), Hp w0 w3 L3 ∧ L3[i]? = some [(l, loopObj .ready f a.tmps ps assign body r)] ∧
        ∀ w4, Hp w0 w4 (L3.set i [(l, loopObj .exhausted f a.tmps ps assign body r)]) → J [{ target := .collected r, args := #[] }] P (.fn f) n R k σ w4) :
    J [] P (.fn f) n R (.code (.rangeFunc g ps assign body) :: k) σ w := by
  intro a ha
  refine jk_of ?_
  intro b hb hk cs
  have H1 := (H.alloc (.deferred (some []))).alloc (loopObj .ready f a.tmps ps assign body w.heap.size)
  have hsz : (w.alloc (.deferred (some []))).heap.size = w.heap.size + 1 := by simp
  rw [hsz] at H1
  have hcall := h w.heap.size (w.heap.size + 1) a _ rfl ha H1
  have he := run_enterLoop_outer (P := P) (w := w) ({ b with roundOf := none } : Frame).fn a.tmps ps assign body
  have hfn : ({ b with roundOf := none } : Frame).fn = f := hb
  rw [hfn] at he
  have hres : (resolve a.eval (rangeCall g (w.heap.size + 1)) 0).run P ((w.alloc (.deferred (some []))).alloc (loopObj .ready f a.tmps ps assign body w.heap.size)) =
      .ok { target := .fn (.func gf) cv.toArray, args := fv.toArray ++ #[Value.func (.yield (w.heap.size + 1)) #[] #[]] } ((w.alloc (.deferred (some []))).alloc (loopObj .ready f a.tmps ps assign body w.heap.size)) := by
    have hcst : ev n σ (.const (.func (.yield (w.heap.size + 1)) #[] #[])) = .func (.yield (w.heap.size + 1)) #[] #[] := rfl
    rw [ha.eval]
    simp [resolve, Sem.run_bind, hg, Deferred.ofValue, hcst]
  have hinv : (invoke (.fn (.func gf) cv.toArray) (fv.toArray ++ #[Value.func (.yield (w.heap.size + 1)) #[] #[]])).run P ((w.alloc (.deferred (some []))).alloc (loopObj .ready f a.tmps ps assign body w.heap.size)) =
      .ok (.enter gf args.toArray) ((w.alloc (.deferred (some []))).alloc (loopObj .ready f a.tmps ps assign body w.heap.size)) := by
    subst hargs
    simp [invoke, callFunc_run hc]
  have hadef : ({ a with defers := [{ target := .collected w.heap.size, args := #[] }] ++ a.defers } : Act).defers = [{ target := .collected w.heap.size, args := #[] }] := by rw [ha.defers]; rfl
  obtain ⟨e, w3, fr, ⟨v, rfl, i, L3, H3, hi, hj⟩, hcomes, hfn3, hlv⟩ := hcall (({ b with roundOf := none } : Frame).atR { a with defers := [{ target := .collected w.heap.size, args := #[] }] ++ a.defers } (.inRangeFunc (w.heap.size + 1) :: k) :: cs)
  have s1 := stepR_rangeFunc (P := P) (b := { b with roundOf := none }) (a := a) (k := k) (cs := cs) (w := w) (by rw [hfn]; exact he) hres hinv
  have s2 := step_leave_returned (c := ({ b with roundOf := none } : Frame).atR { a with defers := [{ target := .collected w.heap.size, args := #[] }] ++ a.defers } (.inRangeFunc (w.heap.size + 1) :: k)) (cs := cs) hlv
  rw [finish_atR_inRangeFunc] at s2
  have hend := run_endLoop (P := P) (H3.get1 hi) (show LoopState.ready ≠ LoopState.busy from by decide)
  have s3 := stepR_endRangeFunc (P := P) (b := { b with roundOf := none }) (a := { a with defers := [{ target := .collected w.heap.size, args := #[] }] ++ a.defers }) (k := k) (cs := cs) hend
  obtain ⟨e2, w5, fr2, hR, hc2, hfn2, hl2⟩ := jk_to (hj _ (H3.putObj hi) { a with defers := [{ target := .collected w.heap.size, args := #[] }] ++ a.defers } ⟨ha.size, ha.at_, hadef⟩) b hb hk cs
  exact ⟨e2, w5, fr2, hR, Comes.of_steps (Steps.head s1 (Steps.trans hcomes (Steps.head s2 (Steps.head s3 (Steps.refl _ _))))) hc2, hfn2, hl2⟩
theorem J.ret_mark {fn : Func} {r i : Nat} {L : List Seg} (hf : P.funcs[f]? = some fn) (H : Hp w0 w L) (hi : L[i]? = some [(r, Obj.deferred (some []))])
    (h : ∀ w' a, Ag [{ target := .collected r, args := #[] }] n σ a → Hp w0 w' (L.set i [(r, Obj.deferred none)]) → ∃ v, (results fn a.tmps).run P w' = .ok v w' ∧ R (.returned v) w') :
    J [{ target := .collected r, args := #[] }] P (.fn f) n R (.code .ret :: k) σ w := by
  intro a ha
  refine jk_of ?_
  intro b hb hk cs
  have htake := run_takeDeferred (P := P) (H.get1 hi)
  obtain ⟨v, hres, hR⟩ := h _ a ha (H.putObj hi)
  have s2 := step_collected (P := P) (fr := { b.at a (.code .ret :: k) with mode := .returning }) (cs := cs) (w := w) (by simp) (show _ = _ :: [] from ha.defers) rfl htake
  refine ⟨.returned v, _, { b.at a (.code .ret :: k) with mode := .returning, defers := [] }, hR, ?_, hb, ?_⟩
  · exact Steps.head step_ret (Steps.head s2 (Steps.refl _ _))
  · exact ⟨rfl, rfl, hk, fn, by show P.funcs[b.fn]? = _; rw [hb]; exact hf, hres⟩
end
end Go.Eng
namespace Go.Eng
open Go
variable {D : List Deferred}
def fnan (x : Nat) : Bool := decide (9218868437227405312 < x % 9223372036854775808)
def qnan : Nat := 9221120237041090560
def cn (x : Nat) : Nat := if fnan x = true then qnan else x
theorem fnan_qnan : fnan qnan = true := by decide
theorem cn_nan {x : Nat} (h : fnan x = true) : cn x = qnan := if_pos h
theorem cn_fin {x : Nat} (h : fnan x = false) : cn x = x := if_neg (by simp [h])
theorem fnan_cn (x : Nat) : fnan (cn x) = fnan x := by
  cases h : fnan x with
  | true => rw [cn_nan h]; exact fnan_qnan
  | false => rw [cn_fin h]; exact h
theorem sw64 : Ieee.double.signWeight = 9223372036854775808 := by decide
theorem ir64 : Ieee.double.infRung = 9218868437227405312 := by decide
theorem bn64 : Ieee.double.binade = 4503599627370496 := by decide
theorem read_nan (x : Nat) : (Ieee.double.read x).isNaN = fnan x := by
  unfold Ieee.Format.read fnan
  rw [sw64, ir64, bn64]
  dsimp only
  split
  · rw [decide_eq_false (by omega)]; rfl
  · split
    · rw [decide_eq_false (by omega)]; rfl
    · split
      · rw [decide_eq_false (by omega)]; rfl
      · rw [decide_eq_true (by omega)]; rfl
theorem word_fin (s : Bool) {r : Nat} (h : r ≤ 9218868437227405312) : fnan (Ieee.double.word s r) = false := by
  unfold Ieee.Format.word fnan
  rw [sw64]
  split <;> exact decide_eq_false (by omega)
theorem write_fin {d : Ieee.Datum} (h : d.isNaN = false) : fnan (Ieee.double.write d) = false := by
  cases d with
  | nan s t => simp [Ieee.Datum.isNaN] at h
  | infinity s => exact word_fin s (by decide)
  | number s m e =>
    simp only [Ieee.Format.write, Ieee.Format.nearest]
    split
    · exact word_fin s (by decide)
    · refine word_fin s ?_
      rw [ir64]; exact Nat.min_le_right _ _
theorem sum_fin {a b d : Ieee.Datum} (h : a.sum b = some d) : a.isNaN = false ∧ b.isNaN = false ∧ d.isNaN = false := by
  cases a <;> cases b <;> simp [Ieee.Datum.sum] at h
  all_goals first | (obtain ⟨_, rfl⟩ := h; exact ⟨rfl, rfl, rfl⟩) | (subst h; exact ⟨rfl, rfl, rfl⟩)
theorem product_fin {a b d : Ieee.Datum} (h : a.product b = some d) : a.isNaN = false ∧ b.isNaN = false ∧ d.isNaN = false := by
  unfold Ieee.Datum.product at h
  split at h
  · cases h
  · cases h
  · cases h; exact ⟨rfl, rfl, rfl⟩
  · split at h
    · cases h
    · cases h; exact ⟨rfl, rfl, rfl⟩
  · split at h
    · cases h
    · cases h; exact ⟨rfl, rfl, rfl⟩
  · cases h; exact ⟨rfl, rfl, rfl⟩
theorem quotient_fin {n : Nat} {a b d : Ieee.Datum} (h : a.quotient n b = some d) : a.isNaN = false ∧ b.isNaN = false ∧ d.isNaN = false := by
  unfold Ieee.Datum.quotient at h
  split at h
  · cases h
  · cases h
  · cases h
  · cases h; exact ⟨rfl, rfl, rfl⟩
  · cases h; exact ⟨rfl, rfl, rfl⟩
  · split at h
    · split at h
      · cases h
      · cases h; exact ⟨rfl, rfl, rfl⟩
    · cases h; exact ⟨rfl, rfl, rfl⟩
theorem opposite_nan (d : Ieee.Datum) : d.opposite.isNaN = d.isNaN := by cases d <;> rfl
def fop (op : BinOp) (x y : Nat) : Option Nat :=
  match op with
  | .add => Ieee.double.add x y
  | .sub => Ieee.double.sub x y
  | .mul => Ieee.double.mul x y
  | .quo => Ieee.double.div x y
  | _ => none
theorem fop_fin {op : BinOp} {x y r : Nat} (h : fop op x y = some r) : fnan x = false ∧ fnan y = false ∧ fnan r = false := by
  have hx := read_nan x
  have hy := read_nan y
  cases op <;> simp only [fop] at h <;> first
    | (cases h; done)
    | (simp only [Ieee.Format.add, Option.map_eq_some_iff] at h
       obtain ⟨d, hd, rfl⟩ := h
       obtain ⟨h1, h2, h3⟩ := sum_fin hd
       exact ⟨by rw [← hx, h1], by rw [← hy, h2], write_fin h3⟩)
    | (simp only [Ieee.Format.sub, Option.map_eq_some_iff] at h
       obtain ⟨d, hd, rfl⟩ := h
       obtain ⟨h1, h2, h3⟩ := sum_fin hd
       rw [opposite_nan] at h2
       exact ⟨by rw [← hx, h1], by rw [← hy, h2], write_fin h3⟩)
    | (simp only [Ieee.Format.mul, Option.map_eq_some_iff] at h
       obtain ⟨d, hd, rfl⟩ := h
       obtain ⟨h1, h2, h3⟩ := product_fin hd
       exact ⟨by rw [← hx, h1], by rw [← hy, h2], write_fin h3⟩)
    | (simp only [Ieee.Format.div, Option.map_eq_some_iff] at h
       obtain ⟨d, hd, rfl⟩ := h
       obtain ⟨h1, h2, h3⟩ := quotient_fin hd
       exact ⟨by rw [← hx, h1], by rw [← hy, h2], write_fin h3⟩)
def fo (op : BinOp) (x y : Nat) : Nat := (fop op x y).getD qnan
def fneg (x : Nat) : Nat := Op.negFloat .f64 x
theorem neg_mod (x : Nat) : fneg x % 9223372036854775808 = x % 9223372036854775808 := by
  have h : fneg x = x ^^^ 2 ^ 63 := rfl
  rw [h]
  have h2 := Nat.xor_mod_two_pow (a := x) (b := 2 ^ 63) (n := 63)
  rw [Nat.mod_self, Nat.xor_zero] at h2
  exact h2
def ford (x y : Nat) : Option Ordering := Ieee.double.order x y
def fint (n : Int) : Nat := FloatKind.f64.nearest n
section
variable {P : Program} {ρ : Operand → Value} {w w0 : World} {L : List Seg} {d : Option Tmp} {ty : TypeId} {pos : String} {af : Array Edge} {g : Option (Nat × Bool)} {x y : Operand}
theorem run_nanBits (a b : Nat) (k : Nat → Value) : ∃ r w', ((do pure (k (← choose (.nanBits .f64 a b)))) : Sem Value).run P w = .ok (k r) w' ∧ fnan r = true ∧ Same w w' := by
  refine ⟨Question.cut (.nanBits .f64 a b) (w.tape w.drawn (.nanBits .f64 a b)), { w with drawn := w.drawn + 1 }, ?_, ?_, ⟨rfl, rfl, rfl, rfl⟩⟩
  · simp [run_choose, Question.forced]
  · unfold fnan
    refine decide_eq_true ?_
    generalize w.tape w.drawn (.nanBits .f64 a b) = t
    show 9218868437227405312 < ((t % 2) * 2 ^ 63 + 0x7ff0000000000000 + 1 + (t / 2) % (2 ^ 52 - 1)) % 9223372036854775808
    have hb : (t / 2) % (2 ^ 52 - 1) < 4503599627370495 := Nat.mod_lt _ (by decide)
    have ha : t % 2 = 0 ∨ t % 2 = 1 := by omega
    generalize (t / 2) % (2 ^ 52 - 1) = u at hb ⊢
    rcases ha with h | h <;> rw [h] <;> omega
theorem EX.farith {op : BinOp} {t t' : TypeId} {a b : Nat} (ho : op = .add ∨ op = .sub ∨ op = .mul ∨ op = .quo) (H : Hp w0 w L) (hx : ρ x = .float .f64 a) (hy : ρ y = .float .f64 b) :
    Does P ρ ⟨d, .binOp op t x y t', ty, pos, af, g⟩ w fun u w' => ∃ r, u = .float .f64 r ∧ cn r = fo op a b ∧ Hp w0 w' L := by
  have hrun : ∀ u w', (Op.floatArith op .f64 a b).run P w = .ok u w' → (execOp ρ ⟨d, .binOp op t x y t', ty, pos, af, g⟩).run P w = .ok (.value u) w' := by
    intro u w' h
    simp only [execOp, hx, hy, eqGuard_at_float, Sem.run_bind, Sem.run_pure, Result.andThen_ok, Sem.run_map]
    have hb : binOp op t (.float .f64 a) (.float .f64 b) = Op.floatArith op .f64 a b := by
      rcases ho with rfl | rfl | rfl | rfl <;> simp [binOp]
    first | rw [hb, h]; rfl | (simp [hb, h])
  have hfop : ∀ r : Option Nat, fop op a b = r → (Op.floatArith op .f64 a b) = (match r with | some r => pure (.float .f64 r) | none => do pure (.float .f64 (← choose (.nanBits .f64 a b))) : Sem Value) := by
    intro r hr
    subst hr
    rcases ho with rfl | rfl | rfl | rfl <;> rfl
  cases hr : fop op a b with
  | some r => exact Does.of_run (hrun (.float .f64 r) w (by rw [hfop _ hr]; rfl)) ⟨r, rfl, by unfold fo; rw [hr]; exact cn_fin (fop_fin hr).2.2, H⟩
  | none =>
    obtain ⟨r, w', h1, h2, h3⟩ := run_nanBits (P := P) (w := w) a b (.float .f64)
    exact Does.of_run (hrun (.float .f64 r) w' (by rw [hfop _ hr]; exact h1)) ⟨r, rfl, by unfold fo; rw [hr]; exact cn_nan h2, H.same h3⟩
theorem RX.fneg {t : TypeId} {a : Nat} (hx : ρ x = .float .f64 a) : Runs P ρ ⟨d, .unOp .neg t x, ty, pos, af, g⟩ w (.float .f64 (fneg a)) := by
  unfold Runs; simp [execOp, hx, Op.unary, Go.Eng.fneg]
theorem RX.i2f {src dst : TypeId} {k : IntKind} {a : Int} (hx : ρ x = .int k a) (hs : P.underlying src = some (.int k)) (hd : P.underlying dst = some (.float .f64)) : Runs P ρ ⟨d, .convert src dst x, ty, pos, af, g⟩ w (.float .f64 (fint a)) := by
  unfold Runs
  simp [execOp, hx, convert, run_underlying hs, run_underlying hd, Conv.intToFloat, fint]
end
end Go.Eng
namespace Go.Eng
open Go
variable {D : List Deferred}
structure MEn where
  key : Int
  val : Value
  born : Nat
def MEn.en (e : MEn) : MapEntry := { key := .int .i64 e.key, val := e.val, born := e.born }
def mapO (l : List MEn) (c : Nat) : Obj := .map (l.map MEn.en).toArray c
section
variable {P : Program} {ρ : Operand → Value} {w w0 : World} {L : List Seg} {d : Option Tmp} {ty : TypeId} {pos : String} {af : Array Edge} {g : Option (Nat × Bool)} {x y z : Operand}
theorem EX.makeMap {t : TypeId} (H : Hp w0 w L) : Does P ρ ⟨d, .makeMap t none, ty, pos, af, g⟩ w fun u w' => ∃ b, u = .map (some b) ∧ Hp w0 w' ([(b, mapO [] 0)] :: L) := by
  refine Does.of_run (v := .map (some w.heap.size)) (w' := w.alloc (mapO [] 0)) ?_ ⟨_, rfl, H.alloc _⟩
  simp [execOp, Instr.makeMap]
  rfl
end
def fnL {α : Type} (f : Nat → α) (m : Nat) : List α := (List.range m).map f
theorem fnL_len {α : Type} {f : Nat → α} {m : Nat} : (fnL f m).length = m := by simp [fnL]
theorem info_one {P : Program} {e b : Nat} {z : Value} (h1 : (P.info? e).bind (·.zero) = some z) (h2 : (P.info? e).map (fun i => (i.size, i.bytes)) = some (1, b)) : ∃ i, P.info? e = some i ∧ i.zero = some z ∧ i.size = 1 ∧ i.bytes = b := by
  cases h : P.info? e with
  | none => rw [h] at h2; cases h2
  | some i =>
    rw [h] at h1 h2
    simp at h1 h2
    exact ⟨i, rfl, h1, h2.1, h2.2⟩
section
variable {P : Program} {f : FuncId} {n : Nat} {R : Ending → World → Prop} {k : List Item} {σ : Env} {w w0 : World} {L : List Seg} {ρ : Operand → Value} {d : Option Tmp} {x y : Operand} {ty : TypeId} {pos : String} {af : Array Edge} {g : Option (Nat × Bool)}
theorem EX.makeS {t e bytes m : Nat} {z : Value} {k : Int} (H : Hp w0 w L) (hu : P.underlying t = some (.slice e)) (hi : ∃ i, P.info? e = some i ∧ i.zero = some z ∧ i.size = 1 ∧ i.bytes = bytes) (hz : z.cells = #[z]) (hx : ρ x = .int .i64 k) (hy : ρ y = .int .i64 k) (hk : k = (m : Nat)) (hb : bytes * m ≤ 281474976710656) (hm : m ≤ 4611686018427387904) :
    Does P ρ ⟨d, .makeSlice t x y, ty, pos, af, g⟩ w fun u w' => ∃ b, u = .slice (some ⟨b, 0, none⟩) m m ∧ Hp w0 w' ([(b, cel (fnL (fun _ => z) m) e)] :: L) := by
  obtain ⟨i, h1, h2, h3, h4⟩ := hi
  subst hk
  have hr := run_make w t e i z hu h1 h2 .i64 .i64 (m : Int) (m : Int) (by omega) (Int.le_refl _) (by rw [h4, ← Int.natCast_mul]; exact Int.ofNat_le.2 hb) (by omega)
  have hc : madeCells z.cells ((m : Int).toNat * i.size) = (fnL (fun _ => z) m).toArray := by
    rw [h3, Int.toNat_natCast, Nat.mul_one, hz]
    unfold madeCells fnL
    apply Array.ext_getElem?
    intro q
    by_cases hq : q < m
    · simp [hq, Nat.mod_one]
    · simp [hq]
  rw [hc] at hr
  refine Does.of_run (v := .slice (some ⟨w.heap.size, 0, none⟩) m m) (w' := w.alloc (cel (fnL (fun _ => z) m) e)) ?_ ⟨_, rfl, H.alloc _⟩
  simp only [execOp, hx, hy, Sem.run_bind, hr, Result.andThen_ok]
  rfl
end
end Go.Eng
namespace Go.Eng
open Go
variable {D : List Deferred}
section
variable {P : Program} {f : FuncId} {n : Nat} {R : Ending → World → Prop} {k : List Item} {σ : Env} {w w0 : World} {L : List Seg} {ρ : Operand → Value} {d : Option Tmp} {x y : Operand} {ty : TypeId} {pos : String} {af : Array Edge} {g : Option (Nat × Bool)}
theorem J.regionY {id : Nat} {l : List Oper} (h : FL Fence.wide D P n (Qk D P (.fn f) n R k) l.toArray l σ w) : J D P (.fn f) n R (.code (.region id l.toArray false) :: k) σ w :=
  J.region_of fun a ha => (wpIn_wide (n := 0)).1 (wpIn_region_lit (h a ha))
theorem FL.nilJ {ops : Array Oper} (h : J D P (.fn f) n R k σ w) : FL Fence.wide D P n (Qk D P (.fn f) n R k) ops [] σ w := FL.nil fun a ha => ⟨rfl, ha.size, ha.defers, h a ha⟩
end
end Go.Eng
namespace Go.Eng
open Go
variable {D : List Deferred}
section
variable {F : Fence} {P : Program} {f : FuncId} {n : Nat} {R : Ending → World → Prop} {k : List Item} {σ : Env} {w w0 : World} {Q : Exit → Act → World → Prop}
theorem FL.no {ops : Array Oper} {o : Oper} {rest : List Oper} (hF : Fair F) (hg : GNo n σ ops o.guard) (h : FL F D P n Q ops rest (updO σ o.dst undef) w) : FL F D P n Q ops (o :: rest) σ w := by
  intro a ha
  have hy : yielded ops a.tmps = yieldE n σ ops := funext (ha.yields ops)
  simp only [wpListIn, hy, hg.unwanted, if_false, Bool.false_eq_true]
  exact ⟨fun f _ => hF.fn f, h _ (ha.put _ _)⟩
section
variable {f : Fr}
theorem J.unroll {c : Code} (h : J D P f n R (.code c :: .inLoop c :: k) σ w) : J D P f n R (.code (.loop c) :: k) σ w :=
  fun a ha => Jk.of_steps (fun _ _ => .one stepR_loop) (h a ha)
theorem J.again {c : Code} (h : J D P f n R (.code c :: .inLoop c :: k) σ w) : J D P f n R (.inLoop c :: k) σ w :=
  fun a ha => Jk.of_steps (fun _ _ => .one stepR_inLoop) (h a ha)
end
end
end Go.Eng
