/- General rules for stepping through a function: no program stands in them. -/
import Derived.Test.YtfpphoapknecfaaGreatDoorBesafterEng10
import Derived.StillTail
namespace Go.Eng
open Go
variable {D : List Deferred}

section
variable {P : Program} {ops : Array Oper} {C : World → Prop} {md : Region.Mode}
/-- Each operation ahead of n that is not listed is waited for by a later one, up to n. -/
def sinkL (md : Region.Mode) (ops : Array Oper) (n : Nat) (l0 : Array Bool) : Bool :=
  (List.range n).all fun i => l0.getD i false || (List.range (n + 1)).any fun j => decide (i < j) && Region.waitsFor md ops j i
def closedL (md : Region.Mode) (ops : Array Oper) (l0 : Array Bool) : Bool :=
  (List.range ops.size).all fun j => !l0.getD j false || (match ops[j]? with | some o => o.after.all fun e => !Region.binds md e || l0.getD e.on false | none => true)
def tailL (ops : Array Oper) (n : Nat) (l0 : Array Bool) : Bool := (List.range ops.size).all fun t => decide (t < n) || !l0.getD t true
theorem inv_of {n : Nat} {l0 : Array Bool} (hs : l0.size = ops.size) (hc : closedL md ops l0 = true) (ht : tailL ops n l0 = true) : HeadInv md ops n l0 := by
  refine ⟨hs, fun j oj hj hl e he hb => ?_, fun t h1 h2 => ?_⟩
  · have hlt : j < ops.size := (Array.getElem?_eq_some_iff.1 hj).1
    have h := List.all_eq_true.1 hc j (List.mem_range.2 hlt)
    simp only [hl, Bool.not_true, Bool.false_or, hj, Array.all_eq_true_iff_forall_mem] at h
    have := h e he
    simpa [hb] using this
  · have h := List.all_eq_true.1 ht t (List.mem_range.2 h2)
    simp only [Bool.or_eq_true, decide_eq_true_eq] at h
    rcases h with h | h
    · omega
    · simpa using h
theorem tail_waitsL {n : Nat} {l0 listed : Array Bool} (hs : sinkL md ops n l0 = true) (h0 : ∀ i, l0.getD i false = true → listed.getD i false = true) (hc : Region.chainB md ops n = true) (inv : HeadInv md ops n listed) :
    ∀ (d i : Nat), n - i = d → i < n → listed.getD i true = false → ∀ t, n ≤ t → t ∉ Region.ready md ops listed := by
  intro d
  induction d using Nat.strongRecOn with
  | _ d ih =>
    intro i hd hi hun t ht hr
    obtain ⟨_, ot, hot, hall⟩ := mem_ready.1 hr
    have htlt : t < ops.size := (Array.getElem?_eq_some_iff.1 hot).1
    by_cases htn : t = n
    · subst htn
      have h1 := List.all_eq_true.1 hs i (List.mem_range.2 hi)
      rw [Bool.or_eq_true] at h1
      rcases h1 with h1 | h1
      · have := h0 i h1
        rw [getD_both hun] at this; cases this
      obtain ⟨j, hj, hj2⟩ := List.any_eq_true.1 h1
      simp only [Bool.and_eq_true, decide_eq_true_eq] at hj2
      obtain ⟨oj, hoj, e, he, hb, hon⟩ := Region.waitsFor_spec hj2.2
      have hjle : j ≤ t := by have := List.mem_range.1 hj; omega
      by_cases hjt : j = t
      · subst hjt
        have : oj = ot := Option.some.inj (hoj.symm.trans hot)
        subst this
        have h2 := hall e he hb
        rw [hon, getD_both hun] at h2
        cases h2
      · cases hl : listed.getD j false with
        | true =>
          have h2 := inv.closed j oj hoj hl e he hb
          rw [hon, getD_both hun] at h2
          cases h2
        | false =>
          have hjs : j < listed.size := by rw [inv.size]; omega
          exact ih (t - j) (by omega) j rfl (by omega) (getD_in hjs hl) t (Nat.le_refl _) hr
    · have h1 := List.all_eq_true.1 hc t (List.mem_range.2 htlt)
      simp only [Bool.or_eq_true, decide_eq_true_eq] at h1
      rcases h1 with h1 | h1
      · omega
      · obtain ⟨o', ho', e, he, hb, hon⟩ := Region.waitsFor_spec h1
        have : o' = ot := Option.some.inj (ho'.symm.trans hot)
        subst this
        have h2 := hall e he hb
        rw [hon, getD_both (inv.tail (t - 1) (by omega) (by omega))] at h2
        cases h2
/-- The head, in whatever order: quiet operations alone; then L. -/
def wpHead (P : Program) (md : Region.Mode) (ops : Array Oper) (C : World → Prop) (n : Nat) (L : Array Bool → Act → Prop) : Nat → Array Bool → Act → Prop
  | 0, listed, a => L listed a
  | f + 1, listed, a =>
    Region.ready md ops listed ≠ [] ∧ ∀ i ∈ Region.ready md ops listed, i < n ∧ qOp P ops C i (wpHead P md ops C n L f (listed.setIfInBounds i true)) a
theorem wpAny_of_headQ {n g : Nat} {L : Array Bool → Act → Prop} {Q' : Exit → Act → World → Prop} (hL : ∀ listed a w, C w → L listed a → wpAny P md ops Q' g listed a w) :
    ∀ (f : Nat) (listed : Array Bool) (a : Act) (w : World), C w → wpHead P md ops C n L f listed a → wpAny P md ops Q' (f + g) listed a w
  | 0, listed, a, w, hw, h => by rw [Nat.zero_add]; exact hL _ _ _ hw h
  | f + 1, listed, a, w, hw, h => by
    rw [show f + 1 + g = (f + g) + 1 by omega]
    exact ⟨fun h0 => absurd h0 h.1, fun i hi => wpOp_of_qOp hw (fun a' w' hw' h' => wpAny_of_headQ hL f _ a' w' hw' h') (h.2 i hi).2⟩
theorem getD_keep {l0 listed : Array Bool} {j : Nat} (h0 : ∀ i, l0.getD i false = true → listed.getD i false = true) : ∀ i, l0.getD i false = true → (listed.setIfInBounds j true).getD i false = true :=
  fun i hi => getD_set_true (h0 i hi)
theorem wpHead_first {n i : Nat} {oi : Oper} {v : Value} {L : Array Bool → Act → Prop} {l0 : Array Bool} (hi : ops[i]? = some oi) (hsel : ∀ (j : Nat) (o : Oper) cs b, ops[j]? = some o → o.op ≠ .select cs b)
    (hs : sinkL md ops n l0 = true) (hc : Region.chainB md ops n = true) (hin : i < n)
    (hdone : ∀ listed a, L listed a → ∀ j ∈ Region.ready md ops listed, n ≤ j) :
    ∀ (f : Nat) (listed : Array Bool) (a : Act), HeadInv md ops n listed → (∀ i, l0.getD i false = true → listed.getD i false = true) →
      (∀ j oj, ops[j]? = some oj → j ≠ i → listed.getD j true = false → (∀ e ∈ oj.after, Region.binds md e = true → e.on ≠ i) → oi.apart ops oj = true) →
      i ∈ Region.ready md ops listed → YieldsIn P ops C oi v a →
      wpHead P md ops C n L f (listed.setIfInBounds i true) (a.put oi.dst v) → wpHead P md ops C n L (f + 1) listed a := by
  intro f
  induction f with
  | zero =>
    intro listed a inv h0 _ hr hy H
    have hun := (mem_ready.1 hr).1
    refine ⟨fun h => (by rw [h] at hr; cases hr), fun j hj => ?_⟩
    have hjn : j < n := by
      rcases Nat.lt_or_ge j n with h | h
      · exact h
      · exact absurd hj (tail_waitsL hs h0 hc inv _ i rfl hin hun j h)
    refine ⟨hjn, ?_⟩
    by_cases hji : j = i
    · subst hji; exact hy.qOp hi H
    · have := hdone _ _ H j (ready_mono hj hji)
      omega
  | succ f ih =>
    intro listed a inv h0 hfree hr hy H
    have hun := (mem_ready.1 hr).1
    refine ⟨fun h => (by rw [h] at hr; cases hr), fun j hj => ?_⟩
    have hjn : j < n := by
      rcases Nat.lt_or_ge j n with h | h
      · exact h
      · exact absurd hj (tail_waitsL hs h0 hc inv _ i rfl hin hun j h)
    refine ⟨hjn, ?_⟩
    by_cases hji : j = i
    · subst hji; exact hy.qOp hi H
    · have h1 := (H.2 j (ready_mono hj hji)).2
      obtain ⟨hjun, oj, hoj, hall⟩ := mem_ready.1 hj
      have hnot : ∀ e ∈ oj.after, Region.binds md e = true → e.on ≠ i := fun e he hb heq => by
        have h1 := hall e he hb
        rw [heq, getD_both hun] at h1
        cases h1
      have h2 := qOp_put hoj (hfree j oj hoj hji hjun hnot) (fun cs b => hsel i oi cs b hi) (fun cs b => hsel j oj cs b hoj) hy h1
      have hfree' : ∀ k ok, ops[k]? = some ok → k ≠ i → (listed.setIfInBounds j true).getD k true = false →
          (∀ e ∈ ok.after, Region.binds md e = true → e.on ≠ i) → oi.apart ops ok = true := fun k ok hk hki hun hno => by
        refine hfree k ok hk hki ?_ hno
        by_cases hjk : j = k
        · subst hjk; exact hjun
        · rw [getD_set_ne true hjk] at hun; exact hun
      refine qOp_mono (fun a' h3 => ih (listed.setIfInBounds j true) a' (inv.set hj hjn) (getD_keep h0) hfree' (ready_mono hr (Ne.symm hji)) h3.1 ?_) h2
      rw [Array.setIfInBounds_comm _ _ hji]
      exact h3.2
/-- The head's operations by their numbers, in this order. -/
def wpIdx (P : Program) (ops : Array Oper) (C : World → Prop) (Q : Act → Prop) : List Nat → Act → Prop
  | [], a => Q a
  | i :: l, a => qOp P ops C i (wpIdx P ops C Q l) a
def idxB (md : Region.Mode) (ops : Array Oper) (n g : Nat) : List Nat → Array Bool → Bool
  | [], listed => Region.seqB md ops g n listed
  | k :: l, listed => decide (k < n) && (ops[k]?).isSome && (Region.ready md ops listed).contains k && Region.free md ops listed k && idxB md ops n g l (listed.setIfInBounds k true)
theorem wpHead_idx {n g : Nat} {Lq : Act → Prop} {l0 : Array Bool} (hsel : Region.noSelect ops = true) (hs : sinkL md ops n l0 = true) (hc : Region.chainB md ops n = true) :
    ∀ (l : List Nat) (listed : Array Bool) (a : Act), HeadInv md ops n listed → (∀ i, l0.getD i false = true → listed.getD i false = true) →
    idxB md ops n g l listed = true → wpIdx P ops C Lq l a →
    wpHead P md ops C n (fun listed' a' => Region.seqB md ops g n listed' = true ∧ Lq a') l.length listed a
  | [], listed, a, _, _, hB, h => ⟨hB, h⟩
  | k :: l, listed, a, inv, h0, hB, h => by
    simp only [idxB, Bool.and_eq_true, decide_eq_true_eq] at hB
    obtain ⟨⟨⟨⟨hkn, hk⟩, hr⟩, hf⟩, hB'⟩ := hB
    obtain ⟨o, ho⟩ := Option.isSome_iff_exists.1 hk
    have hr' : k ∈ Region.ready md ops listed := by simpa using hr
    obtain ⟨v, hy, hK⟩ := yieldsIn_of_qOp ho h
    exact wpHead_first ho (Region.noSelect_spec hsel) hs hc hkn (fun listed' a' hL => seqB_ready hL.1) l.length listed a inv h0 (Region.free_spec ho hf) hr' hy
      (wpHead_idx hsel hs hc l _ _ (inv.set hr' hkn) (getD_keep h0) hB' hK)
def stageB (md : Region.Mode) (ops : Array Oper) (n : Nat) (l0 : Array Bool) (idx : List Nat) : Bool :=
  Region.noSelect ops && sinkL md ops n l0 && Region.chainB md ops n && closedL md ops l0 && tailL ops n l0 && decide (l0.size = ops.size) && idxB md ops n (ops.size - n) idx l0
theorem wpAny_stage {Q : Exit → Act → World → Prop} {l : List Oper} {n : Nat} {l0 : Array Bool} {idx : List Nat} {a : Act} {w : World} {fuel : Nat} (hB : stageB .any l.toArray n l0 idx = true) (hf : fuel = idx.length + (l.toArray.size - n)) (hw : C w)
    (h : wpIdx P l.toArray C (fun a' => ∀ w', C w' → wpList P l.toArray Q (l.drop n) a' w') idx a) : wpAny P .any l.toArray Q fuel l0 a w := by
  simp only [stageB, Bool.and_eq_true, decide_eq_true_eq] at hB
  obtain ⟨⟨⟨⟨⟨⟨hsel, hs⟩, hc⟩, hcl⟩, ht⟩, hsz⟩, hi⟩ := hB
  subst hf
  have inv := inv_of (md := .any) hsz hcl ht
  refine wpAny_of_headQ (C := C) (g := l.toArray.size - n) ?_ _ _ _ _ hw (wpHead_idx hsel hs hc idx l0 a inv (fun _ h => h) hi h)
  intro listed a' w' hw' hL
  have hdl : (l.drop n).length = l.toArray.size - n := by simp
  have := wpAny_of_seq (md := .any) (Q' := Q) (l.drop n) n listed a' w' (fun j => by simp [List.getElem?_drop]) (by rw [hdl]; exact hL.1) (hL.2 w' hw')
  rwa [hdl] at this
end

section
variable {P : Program} {f : Fr} {n : Nat} {R : Ending → World → Prop} {k : List Item} {σ : Env} {w w0 : World} {L : List Seg}
/-- The head of a region that draws: its operations of these numbers, then the others in their order. -/
def JI (D : List Deferred) (P : Program) (f : Fr) (n : Nat) (R : Ending → World → Prop) (l tl : List Oper) (C : World → Prop) (k : List Item) (idx : List Nat) (σ : Env) : Prop :=
  ∀ a, Ag D n σ a → wpIdx P l.toArray C (fun a' => ∀ w', C w' → wpList P l.toArray (Qk D P f n R k) tl a' w') idx a
theorem JA.stage {l tl : List Oper} {fuel : Nat} {listed : List Bool} (m : Nat) (idx : List Nat) (H : Hp w0 w L) (hB : stageB .any l.toArray m listed.toArray idx = true) (hf : fuel = idx.length + (l.length - m)) (htl : l.drop m = tl)
    (h : JI D P f n R l tl (fun w' => Hp w0 w' L) k idx σ) : JA D P f n R l.toArray fuel listed.toArray k σ w := by
  intro a ha
  subst htl
  exact wpAny_stage hB (by simpa using hf) H (h a ha)
variable {l tl : List Oper} {C : World → Prop} {idx : List Nat} {i : Nat} {o : Oper}
theorem JI.nil (h : ∀ w, C w → JL D P f n R l.toArray tl k σ w) : JI D P f n R l tl C k [] σ := fun a ha w hw => h w hw a ha
theorem JI.of {v : Value} (hi : l[i]? = some o) (hy : ∀ a, Ag D n σ a → YieldsIn P l.toArray C o v a) (h : JI D P f n R l tl C k idx (updO σ o.dst v)) : JI D P f n R l tl C k (i :: idx) σ :=
  fun a ha => (hy a ha).qOp (by simpa using hi) (h _ (ha.put _ _))
theorem JI.go {v : Value} (hi : l[i]? = some o) (hg : GOk n σ l.toArray o.guard) (hr : ∀ w, C w → Runs P (ev n σ) o w v) (h : JI D P f n R l tl C k idx (updO σ o.dst v)) : JI D P f n R l tl C k (i :: idx) σ :=
  JI.of hi (fun a ha => .inl ⟨by rw [funext (ha.yields l.toArray)]; exact hg.wanted, fun w hw => by unfold Oper.quietAt; rw [ha.eval, hr w hw]; exact ⟨rfl, rfl⟩⟩) h
theorem JI.call {v : Value} {g : FuncId} {as : List Value} (hi : l[i]? = some o) (hg : GOk n σ l.toArray o.guard) (hr : ∀ w, C w → (execOp (ev n σ) o).run P w = .ok (.enter g as.toArray) w)
    (hc : ∀ w, C w → Ret P g as w fun u w' => u = v ∧ C w') (h : JI D P f n R l tl C k idx (updO σ o.dst v)) : JI D P f n R l tl C k (i :: idx) σ :=
  JI.of hi (fun a ha => .inl ⟨by rw [funext (ha.yields l.toArray)]; exact hg.wanted, fun w hw => by
    unfold Oper.quietAt
    rw [ha.eval, hr w hw]
    exact ⟨rfl, Calls.mono (hc w hw) fun e w' ⟨u, he, hu, hC⟩ => ⟨by rw [he, hu], hC⟩⟩⟩) h
theorem JI.no (hi : l[i]? = some o) (hg : GNo n σ l.toArray o.guard) (h : JI D P f n R l tl C k idx (updO σ o.dst undef)) : JI D P f n R l tl C k (i :: idx) σ :=
  JI.of hi (fun a ha => .inr ⟨by rw [funext (ha.yields l.toArray)]; exact hg.unwanted, rfl⟩) h
theorem JI.splitS {b : Bool} (t : Tmp) (_hb : ev n σ (.tmp t) = .bool b) (ht : b = true → JI D P f n R l tl C k idx σ) (hf : b = false → JI D P f n R l tl C k idx σ) : JI D P f n R l tl C k idx σ := by
  cases b with
  | true => exact ht rfl
  | false => exact hf rfl
end
end Go.Eng
