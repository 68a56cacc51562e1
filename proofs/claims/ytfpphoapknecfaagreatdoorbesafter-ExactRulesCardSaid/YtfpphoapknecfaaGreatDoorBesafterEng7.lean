/- General rules for stepping through a function: no program stands in them. -/
import Derived.Test.YtfpphoapknecfaaGreatDoorBesafterEng6
import Derived.Laws.StructEq
import Derived.Laws.Slices
import Derived.Laws.IdiomStrings
import Derived.LaidEql
namespace Go.Eng
open Go
variable {D : List Deferred}

section
variable {P : Program} {ρ : Operand → Value} {w w0 : World} {L : List Seg} {d : Option Tmp} {ty : TypeId} {pos : String} {af : Array Edge} {g : Option (Nat × Bool)} {x y : Operand}

/-- Two cells of a struct, of one leaf type: are they equal? -/
def leafIn (P : Program) (f : Field) (a b : Value) : Option Bool :=
  match P.underlying f.type, a, b with
  | some (.int _), .int k x, .int k' y => if k = k' then some (x == y) else none
  | some .bool, .bool x, .bool y => some (x == y)
  | some .string, .string x, .string y => some (decide (x = y))
  | _, _, _ => none
def leafAt (P : Program) (f : Field) (a b : Value) : Option Bool := if oneOf P f.type = true then leafIn P f a b else none
def eqAnd (P : Program) (xs ys : List Value) : List Field → Option Bool
  | [] => some true
  | f :: fs =>
    match xs[f.offset]?, ys[f.offset]? with
    | some a, some b =>
      match leafAt P f a b, eqAnd P xs ys fs with
      | some p, some q => some (p && q)
      | _, _ => none
    | _, _ => none
/-- A struct of leaves, all of them named. -/
def flatB (P : Program) (t : TypeId) : Bool :=
  (match P.underlying t with | some (.struct fs) => fs.toList.all fun f => f.name != "_" | _ => false) && !P.stoodInHeld t && !P.eqGuardType P.depth t
theorem leafAt_one {f : Field} {a b : Value} {r : Bool} (h : leafAt P f a b = some r) : oneOf P f.type = true ∧ leafIn P f a b = some r := by
  unfold leafAt at h
  split at h
  · exact ⟨by assumption, h⟩
  · cases h
theorem run_part_one {t : TypeId} {xs : List Value} {o : Nat} {v : Value} (h1 : oneOf P t = true) (hv : xs[o]? = some v) : (part t xs.toArray o).run P w = .ok v w := by
  unfold part
  simp [isAgg_one h1, hv]
theorem run_leaf {f : Field} {a b : Value} {r : Bool} {n : Nat} (h : leafAt P f a b = some r) : (Op.equalIn (n + 1) f.type a b).run P w = .ok r w := by
  replace h := (leafAt_one h).2
  unfold leafIn at h
  split at h
  · rename_i hu
    split at h
    · rename_i hk
      subst hk
      cases h
      exact run_equalIn_int w n f.type _ _ _ _ hu
    · cases h
  · rename_i hu
    cases h
    exact run_equalIn_bool w n f.type _ _ hu
  · rename_i hu
    cases h
    rw [run_equalIn_string w n f.type _ _ hu, bytesL_inj]
  · cases h
theorem run_eqFields {xs ys : List Value} {n : Nat} : ∀ (fs : List Field) (r : Bool), (fs.all fun f => f.name != "_") = true → eqAnd P xs ys fs = some r → (Op.eqFields (n + 1) xs.toArray ys.toArray fs).run P w = .ok r w := by
  intro fs
  induction fs with
  | nil => intro r _ h; cases h; simp [Op.eqFields]
  | cons f fs ih =>
    intro r hn h
    simp only [List.all_cons, Bool.and_eq_true] at hn
    have hname : f.name ≠ "_" := by simpa using hn.1
    unfold eqAnd at h
    split at h
    · rename_i a b ha hb
      split at h
      · rename_i p q hp hq
        have := Option.some.inj h
        subst this
        have h1 := (leafAt_one hp).1
        simp only [Op.eqFields, hname, ne_eq, not_false_eq_true, if_true, Sem.run_bind, run_part_one h1 ha, run_part_one h1 hb, Result.andThen_ok, run_leaf hp]
        cases p
        · simp
        · simp [ih q hn.2 hq]
      · cases h
    · cases h
theorem flat_under {t : TypeId} (h : flatB P t = true) : P.underlying t = some (.struct (P.fieldsOf t)) ∧ ((P.fieldsOf t).toList.all fun f => f.name != "_") = true ∧ P.stoodInHeld t = false ∧ P.eqGuardType P.depth t = false := by
  unfold flatB at h
  simp only [Bool.and_eq_true, Bool.not_eq_true'] at h
  obtain ⟨⟨h1, h2⟩, h3⟩ := h
  split at h1
  · rename_i fs hu
    have hf : P.fieldsOf t = fs := by unfold Program.fieldsOf; rw [hu]
    exact ⟨by rw [hf]; exact hu, by rw [hf]; exact h1, h2, h3⟩
  · cases h1
theorem RX.agg_eql {t t' : TypeId} {xs ys : List Value} {r : Bool} (hx : ρ x = .agg xs.toArray) (hy : ρ y = .agg ys.toArray) (hf : flatB P t = true) (hr : eqAnd P xs ys (P.fieldsOf t).toList = some r) :
    Runs P ρ ⟨d, .binOp .eql t x y t', ty, pos, af, g⟩ w (.bool r) := by
  obtain ⟨hu, hn, hp, hg⟩ := flat_under hf
  unfold Runs
  simp [execOp, hx, hy, run_eqGuard_agg w _ t _ _ _ _ hg, run_eql_struct, run_equalIn_agg w 9999 t _ _ hu hp, run_eqFields (n := 9998) _ _ hn hr]
theorem RX.agg_neq {t t' : TypeId} {xs ys : List Value} {r : Bool} (hx : ρ x = .agg xs.toArray) (hy : ρ y = .agg ys.toArray) (hf : flatB P t = true) (hr : eqAnd P xs ys (P.fieldsOf t).toList = some r) :
    Runs P ρ ⟨d, .binOp .neq t x y t', ty, pos, af, g⟩ w (.bool (!r)) := by
  obtain ⟨hu, hn, hp, hg⟩ := flat_under hf
  unfold Runs
  simp [execOp, hx, hy, run_eqGuard_agg w _ t _ _ _ _ hg, run_neq_struct, run_equalIn_agg w 9999 t _ _ hu hp, run_eqFields (n := 9998) _ _ hn hr]

/-- An error value that errors.New made: a pointer to cells of its own. -/
def ErrAt (L : List Seg) (T : TypeId) (v : Value) (a : Addr) : Prop := v = .iface T (.pointer (some a)) ∧ ∃ C T', (a.block, Obj.cells C T' (0, 0)) ∈ L.flatten
theorem ErrAt.cons {s : Seg} {T : TypeId} {v : Value} {a : Addr} (h : ErrAt L T v a) : ErrAt (s :: L) T v a := by
  obtain ⟨h1, C, T', h2⟩ := h
  exact ⟨h1, C, T', by simp only [List.flatten_cons, List.mem_append]; exact .inr h2⟩
def ptrTo (P : Program) (T : TypeId) : Bool :=
  match P.underlying T, P.info? T with
  | some (.pointer e), some i => i.comparable && (match P.info? e with | some j => j.size != 0 | none => false)
  | _, _ => false
theorem isIface_under {t : TypeId} (h : isIface P t = true) : ∃ ms, P.underlying t = some (.interface ms) := by
  unfold isIface at h
  split at h
  · exact ⟨_, by assumption⟩
  · cases h
theorem ptrTo_of {T : TypeId} (h : ptrTo P T = true) : ∃ e i j, P.underlying T = some (.pointer e) ∧ P.info? T = some i ∧ i.comparable = true ∧ P.info? e = some j ∧ j.size ≠ 0 := by
  unfold ptrTo at h
  split at h
  · rename_i e i hu hi
    simp only [Bool.and_eq_true] at h
    obtain ⟨h1, h2⟩ := h
    split at h2
    · rename_i j hj
      exact ⟨e, i, j, hu, hi, h1, hj, by simpa using h2⟩
    · cases h2
  · cases h
theorem equal_err {t T : TypeId} {u v : Value} {a b : Addr} (H : Hp w0 w L) (ht : isIface P t = true) (hT : ptrTo P T = true) (hu : ErrAt L T u a) (hv : ErrAt L T v b) :
    (Op.equal t u v).run P w = .ok (decide (a = b)) w := by
  obtain ⟨ms, hms⟩ := isIface_under ht
  obtain ⟨e, i, j, h1, h2, h3, h4, h5⟩ := ptrTo_of hT
  obtain ⟨rfl, C, TC, hC⟩ := hu
  obtain ⟨rfl, D, TD, hD⟩ := hv
  unfold Op.equal
  show (Op.equalIn (9998 + 2) t _ _).run P w = _
  by_cases hab : a = b
  · subst hab
    rw [run_equalIn_iface_ptr_same w 9998 _ hms h1 h2 h3 h4]; simp
  · rw [run_equalIn_iface_ptr_other w 9998 hms h1 h2 h3 h4 h5 hab (H.mem _ hC) (H.mem _ hD)]; simp [hab]
theorem RX.err_eql {t t' T : TypeId} {u v : Value} {a b : Addr} (H : Hp w0 w L) (hx : ρ x = u) (hy : ρ y = v) (hu : ErrAt L T u a) (hv : ErrAt L T v b) (ht : isIface P t = true) (hT : ptrTo P T = true) :
    Runs P ρ ⟨d, .binOp .eql t x y t', ty, pos, af, g⟩ w (.bool (decide (a = b))) := by
  have h := equal_err H ht hT hu hv
  obtain ⟨rfl, _⟩ := hu
  obtain ⟨rfl, _⟩ := hv
  have h1 : (binOp .eql t (.iface T (.pointer (some a))) (.iface T (.pointer (some b)))).run P w = .ok (.bool (decide (a = b))) w := by
    simp only [binOp]; simp [h]
  unfold Runs
  simp [execOp, hx, hy, eqGuard_at_iface, h1]

/-- The text of a slice of bytes. -/
theorem RX.b2s {src dst e : TypeId} {p : Option Addr} {c : Nat} {l : List UInt8} (H : Hp w0 w L) (hx : ρ x = .slice p l.length c) (hs : SlAt L p (l.map fun b => .int .u8 b.toNat)) (h1 : sliceOf P src = some (e, 1)) (h2 : P.underlying e = some (.int .u8))
    (h3 : P.underlying dst = some .string) : Runs P ρ ⟨d, .convert src dst x, ty, pos, af, g⟩ w (.string ⟨l.toArray⟩) := by
  obtain ⟨hu, _⟩ := sliceOf_run h1
  unfold Runs
  cases hp : p with
  | none =>
    have hl : l = [] := by
      rcases hs with h | ⟨b, off, C, T, fz, h, _⟩
      · simpa using h
      · rw [hp] at h; cases h
    subst hl
    simp [execOp, hx, hp, run_convert_bytes_string w src dst e _ _ _ hu h2 h3, Conv.bytesToString]; rfl
  | some a =>
    have hc : (convert src dst (.slice (some a) l.length c)).run P w = .ok (.string ⟨l.toArray⟩) w := by
      refine run_convert_bytes_back w src dst e a c l hu h2 h3 (fun j hj => ?_)
      obtain ⟨b, off, hb, hcell⟩ := H.slcell (j := j) (v := .int .u8 (l[j].toNat : Int)) hs (by simp [hj])
      rw [hp] at hb
      cases hb
      rw [Addr.add_lit]; exact hcell
    simp [execOp, hx, hp, hc]

theorem slice_elem {t e : TypeId} {sz : Nat} (h : sliceOf P t = some (e, sz)) : P.underlying t = some (.slice (P.elem t)) ∧ P.elem t = e ∧ (sizeOf e).run P w = .ok sz w := by
  obtain ⟨hu, i, hi, hs⟩ := sliceOf_run h
  have he : P.elem t = e := by unfold Program.elem; rw [hu]
  refine ⟨by rw [he]; exact hu, he, szOf_run ?_⟩
  unfold szOf; rw [hi, ← hs]; rfl
/-- Behind the first l elements. -/
def behind (p : Option Addr) (cap l sz : Nat) : Option Addr :=
  match p with
  | none => none
  | some a => if cap = l then some a else some ⟨a.block, a.off + l * sz, a.spot⟩
theorem sliced_plain {p : Option Addr} {l h m s : Nat} (hp : ∀ a, p = some a → a.spot = none) : sliced p l h m s = .slice (behind p m l s) (h - l) (m - l) := by
  unfold sliced behind
  cases p with
  | none => simp
  | some a =>
    have hv := hp a rfl
    cases a with
    | mk b o v =>
      simp only at hv
      subst hv
      split
      · simp
      · simp [Addr.add_lit]
theorem RX.slice_h {t e : TypeId} {p : Option Addr} {n cap sz : Nat} {k : IntKind} {h : Int} {r : Nat} (hx : ρ x = .slice p n cap) (hy : ρ y = .int k h) (ht : sliceOf P t = some (e, sz)) (hp : ∀ a, p = some a → a.spot = none)
    (h0 : 0 ≤ h) (h1 : h ≤ cap) (hr : h.toNat = r) : Runs P ρ ⟨d, .slice t x none (some y) none, ty, pos, af, g⟩ w (.slice p r cap) := by
  obtain ⟨hu, he, hs⟩ := slice_elem (w := w) ht
  subst hr
  have hb : behind p cap 0 sz = p := by
    unfold behind
    cases p with
    | none => rfl
    | some a => simp
  unfold Runs
  simp [execOp, hx, hy, run_sliceAt_slice w t _ _ _ _ hu, run_slice_h w t p n cap hu k h h0 h1, he, hs, sliced_plain hp, hb]
theorem RX.slice_l {t e : TypeId} {p : Option Addr} {n cap sz : Nat} {k : IntKind} {l : Int} {r : Nat} (hx : ρ x = .slice p n cap) (hy : ρ y = .int k l) (ht : sliceOf P t = some (e, sz)) (hp : ∀ a, p = some a → a.spot = none)
    (h0 : 0 ≤ l) (h1 : l ≤ n) (hr : l.toNat = r) : Runs P ρ ⟨d, .slice t x (some y) none none, ty, pos, af, g⟩ w (.slice (behind p cap r sz) (n - r) (cap - r)) := by
  obtain ⟨hu, he, hs⟩ := slice_elem (w := w) ht
  subst hr
  unfold Runs
  simp [execOp, hx, hy, run_sliceAt_slice w t _ _ _ _ hu, run_slice_l w t p n cap hu k l h0 h1, he, hs, sliced_plain hp]
theorem RX.slice_lh {t e : TypeId} {p : Option Addr} {n cap sz : Nat} {k k' : IntKind} {l h : Int} {z : Operand} {r s : Nat} (hx : ρ x = .slice p n cap) (hy : ρ y = .int k l) (hz : ρ z = .int k' h) (ht : sliceOf P t = some (e, sz))
    (hp : ∀ a, p = some a → a.spot = none) (h0 : 0 ≤ l) (h1 : l ≤ h) (h2 : h ≤ cap) (hr : l.toNat = r) (hs : h.toNat = s) : Runs P ρ ⟨d, .slice t x (some y) (some z) none, ty, pos, af, g⟩ w (.slice (behind p cap r sz) (s - r) (cap - r)) := by
  obtain ⟨hu, he, hs'⟩ := slice_elem (w := w) ht
  subst hr hs
  unfold Runs
  simp [execOp, hx, hy, hz, run_sliceAt_slice w t _ _ _ _ hu, run_slice_lh w t p n cap hu k k' l h h0 h1 h2, he, hs', sliced_plain hp]
theorem RX.str_add {t t' : TypeId} {a b : ByteArray} (hx : ρ x = .string a) (hy : ρ y = .string b) (hl : (a.size : Int) + b.size ≤ 9223372036854775807) : Runs P ρ ⟨d, .binOp .add t x y t', ty, pos, af, g⟩ w (.string (a ++ b)) := by
  unfold Runs
  simp [execOp, hx, hy, eqGuard_at_string, binOp, Op.stringOp, hl]

theorem upds_has : ∀ (l : List (Nat × Value)) (σ : Env), Has σ l → upds σ l = σ := by
  intro l
  induction l with
  | nil => intro σ _; rfl
  | cons p l ih =>
    intro σ h
    simp only [upds, ih σ h.2]
    funext t
    simp only [upd]
    cases hb : Nat.beq t p.1 with
    | true =>
      have e : t = p.1 := by simpa [Nat.beq_eq] using hb
      rw [e]; exact h.1.symm
    | false => rfl
/-- Ways through one piece of code meet again behind it. -/
theorem J.join {f : Fr} {n : Nat} {R : Ending → World → Prop} {k : List Item} {σ : Env} {c : Code} {ι : Type} (S : ι → List (Nat × Value)) (Φ : ι → World → Prop) (C : List (Nat × Value)) (_hC : Has σ C)
    (hk : ∀ i (ρ : Env) (w : World), Φ i w → J D P f n R k (upds (upds ρ C) (S i)) w)
    (hc : ∀ k', (∀ i (σ' : Env) (w' : World), Has σ' C → Has σ' (S i) → Φ i w' → J D P f n R k' σ' w') → J D P f n R (.code c :: k') σ w) : J D P f n R (.code c :: k) σ w :=
  hc k (fun i σ' w' h1 h2 h3 => by
    have := hk i σ' w' h3
    rw [upds_has C σ' h1, upds_has (S i) σ' h2] at this
    exact this)
theorem setN_pre : ∀ (vs l pre : List Value), l.length = vs.length → setN (pre ++ l) pre.length vs = pre ++ vs := by
  intro vs
  induction vs with
  | nil => intro l pre h; have : l = [] := List.eq_nil_of_length_eq_zero (by simpa using h); subst this; rfl
  | cons v vs ih =>
    intro l pre h
    cases l with
    | nil => simp at h
    | cons a l =>
      have h1 : (pre ++ a :: l).set pre.length v = (pre ++ [v]) ++ l := by simp
      have h2 := ih l (pre ++ [v]) (by simpa using h)
      unfold setN
      rw [h1]
      simpa using h2
/-- A block written anew from its head to its end. -/
theorem setN_full {l vs : List Value} (h : l.length = vs.length) : setN l 0 vs = vs := setN_pre vs l [] h
theorem SlAt.pre {p : Option Addr} {xs ys : List Value} (h : SlAt L p (xs ++ ys)) : SlAt L p xs := by
  rcases h with h | ⟨b, off, C, T, fz, hp, hm, hc⟩
  · exact .inl (List.append_eq_nil_iff.1 h).1
  · refine .inr ⟨b, off, C, T, fz, hp, hm, fun j hj => ?_⟩
    rw [hc j (by rw [List.length_append]; omega), List.getElem?_append_left hj]
theorem setN_len : ∀ (vs l : List Value) (o : Nat), (setN l o vs).length = l.length := by
  intro vs
  induction vs with
  | nil => intro l o; rfl
  | cons v vs ih => intro l o; unfold setN; rw [ih]; simp
theorem setN_take : ∀ (vs l : List Value) (o m : Nat), (setN l o vs).take m = setN (l.take m) o vs := by
  intro vs
  induction vs with
  | nil => intro l o m; rfl
  | cons v vs ih => intro l o m; unfold setN; rw [ih, List.take_set]
/-- Cells of an own slice written anew. -/
theorem OwnSl.setN {e size n cap g o : Nat} {xs vs l : List Value} (h : OwnSl e size (some ⟨g, 0, none⟩) n cap xs [(g, cel l e)]) : OwnSl e size (some ⟨g, 0, none⟩) n cap (setN xs o vs) [(g, cel (setN l o vs) e)] := by
  obtain ⟨hl, ⟨h1, _⟩ | ⟨g', l', h1, h2, hn, hc, ht⟩⟩ := h
  · cases h1
  · cases h1
    have : l = l' := by
      have := List.singleton_inj.1 h2
      simp only [Prod.mk.injEq, true_and] at this
      unfold cel at this
      injection this with h3 _ _
      exact congrArg Array.toList h3
    subst this
    exact ⟨by rw [setN_len]; exact hl, .inr ⟨g, _, rfl, rfl, hn, by rw [setN_len]; exact hc, by rw [setN_len, setN_take, ht]⟩⟩
theorem OwnSl.set {e n cap g o : Nat} {xs l : List Value} {v : Value} (h : OwnSl e 1 (some ⟨g, 0, none⟩) n cap xs [(g, cel l e)]) : OwnSl e 1 (some ⟨g, 0, none⟩) n cap (xs.set o v) [(g, cel (l.set o v) e)] :=
  h.setN (o := o) (vs := [v])
/-- An own slice without the elements behind the n-th. -/
theorem OwnSl.spot {e size n cap : Nat} {p : Option Addr} {xs : List Value} {s : Seg} (h : OwnSl e size p n cap xs s) : ∀ a, p = some a → a.spot = none := by
  intro a ha
  obtain ⟨_, ⟨rfl, _⟩ | ⟨g, l, rfl, _⟩⟩ := h
  · cases ha
  · cases ha; rfl
end
end Go.Eng
