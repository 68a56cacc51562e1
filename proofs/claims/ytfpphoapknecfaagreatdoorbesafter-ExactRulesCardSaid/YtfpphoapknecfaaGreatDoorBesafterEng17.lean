/- General rules for stepping through a function: no program stands in them. -/
import Derived.Test.YtfpphoapknecfaaGreatDoorBesafterEng16
import Derived.OrdersHeld
namespace Go.Eng
open Go
variable {D : List Deferred}

section
variable {P : Program} {f : Fr} {n : Nat} {R : Ending → World → Prop} {k : List Item} {σ : Env} {w w0 : World} {o : Oper} {S : World → Prop} {ops : Array Oper}
/-- A region of whatever order, in which S holds throughout. -/
def JH (D : List Deferred) (P : Program) (f : Fr) (n : Nat) (R : Ending → World → Prop) (ops : Array Oper) (S : World → Prop) (fuel : Nat) (listed : Array Bool) (k : List Item) (σ : Env) (w : World) : Prop :=
  ∀ a, Ag D n σ a → wpAnyH P .any ops (Qk D P f n R k) S fuel listed a w
theorem J.held {id : Nat} {l : List Oper} (S : World → Prop) (hm : P.follows .mixedOrders = true)
    (h : ∀ w', Same w w' → JH D P f n R l.toArray S l.length (falses l.length).toArray k σ w') (hp : f.plain l = true := by exact rfl) : J D P f n R (.code (.region id l.toArray true) :: k) σ w :=
  J.anyof hm (fun a ha => wpAny_of_held _ _ _ _ (by
    have := h { w with drawn := w.drawn + 1 } ⟨rfl, rfl, rfl, rfl⟩ a ha
    rw [falses_eq] at this
    simpa using this)) hp
theorem JH.take {fuel : Nat} {listed : List Bool} {l : List Oper} {v : Value} (i : Nat) {listed' : List Bool} (hi : l[i]? = some o)
    (hs : Region.noSelect l.toArray = true) (hf : Region.free .any l.toArray listed.toArray i = true) (hr : (Region.ready .any l.toArray listed.toArray).contains i = true)
    (hl : listed.set i true = listed') (hg : GOk n σ l.toArray o.guard) (hv : ∀ w, S w → Runs P (ev n σ) o w v) (hS : S w)
    (h : JH D P f n R l.toArray S fuel listed'.toArray k (updO σ o.dst v) w) : JH D P f n R l.toArray S (fuel + 1) listed.toArray k σ w := by
  intro a ha
  have hy : yielded l.toArray a.tmps = yieldE n σ l.toArray := funext (ha.yields _)
  refine wpAnyH_take (by simpa using hi) hs hf hr (fun c a w hq => by obtain ⟨he, _⟩ := hq; cases he) (v := v) ?_ hS ?_
  · exact .inl ⟨by rw [hy]; exact hg.wanted, fun w hw => by rw [ha.eval]; exact hv w hw⟩
  · rw [List.setIfInBounds_toArray, hl]
    exact h _ (ha.put _ _)
theorem JH.takeno {fuel : Nat} {listed : List Bool} {l : List Oper} (i : Nat) {listed' : List Bool} (hi : l[i]? = some o)
    (hs : Region.noSelect l.toArray = true) (hf : Region.free .any l.toArray listed.toArray i = true) (hr : (Region.ready .any l.toArray listed.toArray).contains i = true)
    (hl : listed.set i true = listed') (hg : GNo n σ l.toArray o.guard) (hS : S w)
    (h : JH D P f n R l.toArray S fuel listed'.toArray k (updO σ o.dst undef) w) : JH D P f n R l.toArray S (fuel + 1) listed.toArray k σ w := by
  intro a ha
  have hy : yielded l.toArray a.tmps = yieldE n σ l.toArray := funext (ha.yields _)
  refine wpAnyH_take (by simpa using hi) hs hf hr (fun c a w hq => by obtain ⟨he, _⟩ := hq; cases he) (v := undef) ?_ hS ?_
  · exact .inr ⟨by rw [hy]; exact hg.unwanted, rfl⟩
  · rw [List.setIfInBounds_toArray, hl]
    exact h _ (ha.put _ _)
def JHO (D : List Deferred) (P : Program) (f : Fr) (n : Nat) (R : Ending → World → Prop) (ops : Array Oper) (S : World → Prop) (fuel : Nat) (listed : List Bool) (k : List Item) (σ : Env) (w : World) (i : Nat) : Prop :=
  ∀ a, Ag D n σ a → wpOp P ops (Qk D P f n R k) i (fun a' w' => S w' ∧ wpAnyH P .any ops (Qk D P f n R k) S fuel (listed.toArray.setIfInBounds i true) a' w') a w
theorem JH.all {fuel : Nat} {listed : List Bool} (rs : List Nat) (hr : Region.ready .any ops listed.toArray = rs) (hne : rs ≠ [])
    (h : allJO (JHO D P f n R ops S fuel listed k σ w) rs) : JH D P f n R ops S (fuel + 1) listed.toArray k σ w :=
  fun a ha => wpAnyH_all hr hne fun i hi => h.mem i hi a ha
theorem JHO.does {fuel : Nat} {listed : List Bool} {l : List Oper} {i : Nat} {listed' : List Bool} {Φ : Value → World → Prop} (hi : l[i]? = some o) (hl : listed.set i true = listed')
    (hg : GOk n σ l.toArray o.guard) (hd : Does P (ev n σ) o w Φ) (h : ∀ v w', Φ v w' → S w' ∧ JH D P f n R l.toArray S fuel listed'.toArray k (updO σ o.dst v) w') :
    JHO D P f n R l.toArray S fuel listed k σ w i := by
  intro a ha
  have hy : yielded l.toArray a.tmps = yieldE n σ l.toArray := funext (ha.yields _)
  have hi' : (l.toArray)[i]? = some o := by simpa using hi
  unfold wpOp
  simp only [hi', hy, hg.wanted, if_true, List.setIfInBounds_toArray, hl]
  exact .inl (wp_of_does (by rw [ha.eval]; exact hd) fun v w' hΦ => ⟨(h v w' hΦ).1, (h v w' hΦ).2 _ (ha.put _ _)⟩)
theorem JHO.go {fuel : Nat} {listed : List Bool} {l : List Oper} {i : Nat} {listed' : List Bool} {v : Value} (hi : l[i]? = some o) (hl : listed.set i true = listed')
    (hg : GOk n σ l.toArray o.guard) (hr : Runs P (ev n σ) o w v) (hS : S w) (h : JH D P f n R l.toArray S fuel listed'.toArray k (updO σ o.dst v) w) :
    JHO D P f n R l.toArray S fuel listed k σ w i :=
  JHO.does (Φ := fun u w' => u = v ∧ w' = w) hi hl hg (Does.of_run hr ⟨rfl, rfl⟩) fun _ _ ⟨hu, hw⟩ => by rw [hu, hw]; exact ⟨hS, h⟩
theorem JH.done {fuel : Nat} {listed : List Bool} (hr : Region.ready .any ops listed.toArray = []) (h : J D P f n R k σ w) : JH D P f n R ops S fuel listed.toArray k σ w :=
  fun a ha => wpAnyH_done hr ⟨rfl, ha.size, ha.defers, h a ha⟩ fuel
theorem JH.splitS {fuel : Nat} {listed : Array Bool} {b : Bool} (t : Tmp) (_hb : ev n σ (.tmp t) = .bool b) (ht : b = true → JH D P f n R ops S fuel listed k σ w)
    (hf : b = false → JH D P f n R ops S fuel listed k σ w) : JH D P f n R ops S fuel listed k σ w := by
  cases b with
  | true => exact ht rfl
  | false => exact hf rfl
end
end Go.Eng
