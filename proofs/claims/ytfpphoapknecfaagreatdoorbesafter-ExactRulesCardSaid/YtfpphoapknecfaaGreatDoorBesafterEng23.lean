/- General rules for stepping through a function: no program stands in them. -/
import Derived.Test.YtfpphoapknecfaaGreatDoorBesafterEng22
namespace Go.Eng
open Go
variable {D : List Deferred}
section
variable {P : Program} {f : FuncId} {n : Nat} {R : Ending → World → Prop} {k : List Item} {σ : Env} {w w0 : World} {L : List Seg} {ρ : Operand → Value} {d : Option Tmp} {x y : Operand} {ty : TypeId} {pos : String} {af : Array Edge} {g : Option (Nat × Bool)}
/-! A region in one order that calls yield. -/
theorem J.regionY {id : Nat} {l : List Oper} (h : FL Fence.wide D P n (Qk D P (.fn f) n R k) l.toArray l σ w) : J D P (.fn f) n R (.code (.region id l.toArray false) :: k) σ w :=
  J.region_of fun a ha => (wpIn_wide (n := 0)).1 (wpIn_region_lit (h a ha))
theorem FL.nilJ {ops : Array Oper} (h : J D P (.fn f) n R k σ w) : FL Fence.wide D P n (Qk D P (.fn f) n R k) ops [] σ w := FL.nil fun a ha => ⟨rfl, ha.size, ha.defers, h a ha⟩
/-! The same facts about maps, wherever the map lies. -/
theorem at_flat {e : Nat × Obj} (h : e ∈ L.flatten) : ∃ (i : Nat) (s : Seg), L[i]? = some s ∧ e ∈ s := by
  obtain ⟨s, hs, he⟩ := List.mem_flatten.1 h
  obtain ⟨i, hi⟩ := List.mem_iff_getElem?.1 hs
  exact ⟨i, s, hi, he⟩
theorem EX.rangeF {t kt et b c : Nat} {zv : Value} {l : List MEn} (H : Hp w0 w L) (hx : ρ x = .map (some b)) (hm : (b, mapO l c) ∈ L.flatten) (hT : MapTy P t kt et zv) :
    Does P ρ ⟨d, .range t x, ty, pos, af, g⟩ w fun u w' => ∃ r, u = .pointer (some ⟨r, 0, none⟩) ∧ Hp w0 w' ([(r, iterO b c [])] :: L) := by
  obtain ⟨i, s, hi, he⟩ := at_flat hm
  exact EX.range H hx hi he hT
theorem Does.mono {o : Oper} {Φ Ψ : Value → World → Prop} (h : Does P ρ o w Φ) (hm : ∀ v w', Φ v w' → Ψ v w') : Does P ρ o w Ψ := by
  unfold Does at h ⊢
  revert h
  generalize (execOp ρ o).run P w = r
  intro h
  cases r with
  | halt x w' => exact h.elim
  | ok x w' =>
    cases x with
    | value v => exact hm _ _ h
    | skip => exact hm _ _ h
    | enter g args => exact Ret.mono h hm
    | _ => exact h.elim
theorem set_same {i : Nat} {s : Seg} (h : L[i]? = some s) : L.set i s = L := by
  apply List.ext_getElem?; intro j
  rw [List.getElem?_set]
  split
  · rename_i hij; subst hij; split
    · exact h.symm
    · rename_i hn; exact absurd (List.getElem?_eq_some_iff.1 h).1 hn
  · rfl
theorem EX.nextF {b c i r : Nat} {l vis left : List MEn} (H : Hp w0 w L) (hx : ρ x = .pointer (some ⟨r, 0, none⟩)) (hi : L[i]? = some [(r, iterO b c vis)]) (hm : (b, mapO l c) ∈ L.flatten)
    (hb : ∀ e ∈ l, e.born < c) (hnd : (l.map MEn.born).Nodup) (hp : (vis ++ left).Perm l) :
    Does P ρ ⟨d, .next x false, ty, pos, af, g⟩ w fun u w' => ∃ q vs vis', u = .tuple (Value.bool q :: vs).toArray ∧ ((q = false ∧ left = [] ∧ vis' = vis) ∨ (q = true ∧ ∃ e left', left.Perm (e :: left') ∧ vis' = vis ++ [e])) ∧ Hp w0 w' (L.set i [(r, iterO b c vis')]) := by
  obtain ⟨j, s, hj, he⟩ := at_flat hm
  refine Does.mono (EX.next H hx hi hj he hb hnd hp) ?_
  rintro u w' (⟨h1, rfl, H'⟩ | ⟨e, left', h1, rfl, H'⟩)
  · exact ⟨false, [], vis, rfl, .inl ⟨rfl, h1, rfl⟩, by rw [set_same hi]; exact H'⟩
  · exact ⟨true, _, vis ++ [e], rfl, .inr ⟨rfl, e, left', h1, rfl⟩, H'⟩
theorem RX.entryF {b c r i : Nat} {l vis : List MEn} {e : MEn} (H : Hp w0 w L) (hx : ρ x = .pointer (some ⟨r, 0, none⟩)) (hi : L[i]? = some [(r, iterO b c (vis ++ [e]))]) (hm : (b, mapO l c) ∈ L.flatten)
    (hnd : (l.map MEn.born).Nodup) (he : e ∈ l) : Runs P ρ ⟨d, .entry x, ty, pos, af, g⟩ w (.tuple #[.int .i64 e.key, e.val]) := by
  obtain ⟨j, s, hj, hs⟩ := at_flat hm
  exact RX.entry H hx hi (List.mem_singleton.2 rfl) hj hs hnd he
/-! Rows of numbers that a function tells to yield. -/
abbrev yV (l : Nat) : Value := .func (.yield l) #[] #[]
/-- What a round does: it goes on (A), or it is the last one (B). -/
def YI (P : Program) (l : Nat) (A B : List Int → List Seg → Prop) (w0 : World) (N : Nat) (F : List Seg) : Prop := ∀ (xs : List Int) (G X : List Seg) (W : World) (x : Int), A xs G → xs.length < N → Hp w0 W (X ++ (G ++ F)) →
  YieldAt Fence.wide 0 P l #[.int .i64 x] W fun e W' => ∃ v, e = .returned v ∧ ∃ q G', v = .bool q ∧ (q = true → A (xs ++ [x]) G') ∧ (q = false → B (xs ++ [x]) G') ∧ Hp w0 W' (X ++ (G' ++ F))
def never : List Int → List Seg → Prop := fun _ _ => False
/-- A function that tells yield a row in S, whatever the rounds do, as long as none is the last one. -/
def SeqI (P : Program) (g : FuncId) (cv : List Value) (w0 : World) (N : Nat) (X F : List Seg) (S : List Int → Prop) : Prop := ∀ (l : Nat) (A : List Int → List Seg → Prop) (G : List Seg) (w : World), YI P l A never w0 N F → A [] G → Hp w0 w (X ++ (G ++ F)) →
  Ret P g (yV l :: cv) w fun _ w' => ∃ xs G', S xs ∧ A xs G' ∧ Hp w0 w' (X ++ (G' ++ F))
theorem slAp {X Y : List Seg} {p : Option Addr} {xs : List Value} (h : SlAt X p xs) : SlAt (X ++ Y) p xs := h.perm fun e he => by
  rw [List.flatten_append]; exact List.mem_append_left _ he
theorem hp_fore {X G F : List Seg} (H : Hp w0 w (X ++ (G ++ F))) : Hp w0 w (G ++ (X ++ F)) := perm_of_flatten H (by
  simp only [List.flatten_append]
  exact List.perm_append_comm_assoc _ _ _)
end
end Go.Eng
