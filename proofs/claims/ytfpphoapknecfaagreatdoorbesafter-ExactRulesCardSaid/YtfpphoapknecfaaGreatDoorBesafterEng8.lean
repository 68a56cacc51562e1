/- General rules for stepping through a function: no program stands in them. -/
import Derived.Test.YtfpphoapknecfaaGreatDoorBesafterEng7
import Derived.ProofKit
import Derived.OpenShut
import Derived.Carry
import Derived.ShutString
import Derived.Deep.DeepHandedRow
import Derived.Deep.DeepWitnessRowRef
import Derived.Stop.LaidErr
namespace Go.Eng
open Go Go.RowKit Go.ChangeShapes Go.WideShapes
variable {D : List Deferred}

section
variable {P : Program} {W : World}

theorem gval_of_var {n : String} {g : Nat} {v : Value} (hg : P.globalNamed n = some g) (hv : W.var? P n = some #[v]) : GVal [allOf W] g v := by
  unfold World.var? at hv
  rw [hg] at hv
  simp only [Option.bind_some] at hv
  split at hv
  · rename_i cs t fz hb
    cases hv
    exact ⟨#[v], t, fz, by simpa using allOf_mem hb, rfl⟩
  · cases hv
theorem slAt_of_var {n : String} {g : Nat} {cs : Array Value} (hg : P.globalNamed n = some g) (hv : W.var? P n = some cs) : SlAt [allOf W] (some ⟨g, 0, none⟩) cs.toList := by
  unfold World.var? at hv
  rw [hg] at hv
  simp only [Option.bind_some] at hv
  split at hv
  · rename_i cs' t fz hb
    cases hv
    exact .inr ⟨g, 0, cs, t, fz, rfl, by simpa using allOf_mem hb, fun j hj => by simp⟩
  · cases hv

/-- The listed errors: their names and texts. -/
def errItem (T : String) (x : String × List UInt8) : String × DataW Unit := (x.1, .iface T (.ptr (.agg [.lit (.string x.2)])))
def errTies (P : Program) (es : List (String × List UInt8)) (ti : TypeId) : Bool :=
  es.all fun x => match P.globalNamed x.1 with
    | some g => (P.globals[g]?).map (·.type) == some ti
    | none => false
/-- What the type of errors.New's pointer is. -/
structure ErrType (P : Program) (T : String) (ti tp te ts : TypeId) : Prop where
  hi : ∃ ms, P.underlying ti = some (.interface ms)
  hrow : ∀ u, P.typeName? 3 u = some T → u = tp
  hp : P.underlying tp = some (.pointer te)
  he : ∃ f : Field, P.underlying te = some (.struct #[f]) ∧ f.type = ts ∧ f.offset = 0
  hs : P.underlying ts = some .string
  hc : P.cellsOf te = 1
  hcs : P.cellsOf ts = 1
theorem errs_laid {T : String} {ti tp te ts : TypeId} (hT : ErrType P T ti tp te ts) : ∀ (es : List (String × List UInt8)) (rest : List (String × DataW Unit)) (ps : List MemPlace), errTies P es ti = true →
    DataW.LaidVars P W (es.map (errItem T) ++ rest) ps →
    (∀ b off, MemPlace.cell b off ∈ ps → (∃ c t, W.heap[b]? = some (.cells c t (0, 0))) ∧ ∀ u v, W.cell? ⟨b, off, none⟩ = some (.iface u v) → Value.okWide P W .any 0 u v) →
    ∃ (A : List Addr) (q : List MemPlace), A.length = es.length ∧ DataW.LaidVars P W rest q ∧ (∀ p ∈ q, p ∈ ps) ∧
      ∀ (i : Nat) (n : String) (txt : List UInt8), es[i]? = some (n, txt) → ∃ (a : Addr) (g : Nat) (s : ByteArray), A[i]? = some a ∧ P.globalNamed n = some g ∧ W.var? P n = some #[.iface tp (.pointer (some a))] ∧ W.cell? a = some (.string s) ∧ s.data.toList = txt ∧
        ∃ c t, W.heap[a.block]? = some (.cells c t (0, 0)) := by
  intro es
  induction es with
  | nil => intro rest ps _ h _; exact ⟨[], ps, rfl, h, fun p hp => hp, fun i n txt h => by simp at h⟩
  | cons e es ih =>
    intro rest ps hties h hrows
    obtain ⟨n0, text0⟩ := e
    unfold errTies at hties
    simp only [List.all_cons, Bool.and_eq_true] at hties
    obtain ⟨ht0, hties'⟩ := hties
    obtain ⟨g, t, cs, fuel, p, q, hg, htt, hv, hd, hq, rfl⟩ := h
    rw [hg] at ht0
    simp only [beq_iff_eq] at ht0
    obtain rfl := Option.some.inj (ht0.symm.trans htt)
    obtain ⟨ms, hi⟩ := hT.hi
    obtain ⟨f, he, hft, hfo⟩ := hT.he
    obtain ⟨l0⟩ := cs
    have ok0 : ∀ u v, l0 = [.iface u v] → Value.okWide P W .any 0 u v := fun u v e => by
      subst e
      exact (hrows g 0 (by simp [MemPlace.row])).2 u v (by simpa using World.var?_cell hg hv 0)
    obtain ⟨a0, s0, rfl, hc0, hs0, hz0, rfl⟩ := errorString_of_trod hi hT.hrow hT.hp he hft hfo hT.hs hT.hc hT.hcs hd ok0
    obtain ⟨A, q', hA, hq', hsub, hall⟩ := ih rest q hties' hq (fun b off hm => hrows b off (List.mem_append_right _ hm))
    refine ⟨a0 :: A, q', by simp [hA], hq', fun p hp => List.mem_append_right _ (hsub p hp), fun i n txt hi' => ?_⟩
    cases i with
    | zero =>
      have he' : n0 = n ∧ text0 = txt := by simpa using hi'
      obtain ⟨rfl, rfl⟩ := he'
      exact ⟨a0, g, s0, rfl, hg, hv, hc0, hs0, (hrows a0.block a0.off (by simp [MemPlace.row])).1⟩
    | succ i =>
      obtain ⟨a, g, s, h1, h2⟩ := hall i n txt (by simpa using hi')
      exact ⟨a, g, s, by simpa using h1, h2⟩

theorem gerr_at {A : List Addr} {i : Nat} {n : String} {txt : List UInt8} {g tp : Nat}
    (h : ∃ (a : Addr) (g : Nat) (s : ByteArray), A[i]? = some a ∧ P.globalNamed n = some g ∧ W.var? P n = some #[.iface tp (.pointer (some a))] ∧ W.cell? a = some (.string s) ∧ s.data.toList = txt ∧ ∃ c t, W.heap[a.block]? = some (.cells c t (0, 0)))
    (hg : P.globalNamed n = some g) : GErr [allOf W] g (.iface tp (.pointer (some (A.getD i ⟨0, 0, none⟩)))) := by
  obtain ⟨a, g', s, hA, hg', hv, _⟩ := h
  have : A.getD i ⟨0, 0, none⟩ = a := by rw [List.getD_eq_getElem?_getD, hA]; rfl
  rw [this]
  exact ⟨gval_of_var hg hv, rfl, rfl⟩
theorem errAt_at {A : List Addr} {i : Nat} {n : String} {txt : List UInt8} {tp : Nat}
    (h : ∃ (a : Addr) (g : Nat) (s : ByteArray), A[i]? = some a ∧ P.globalNamed n = some g ∧ W.var? P n = some #[.iface tp (.pointer (some a))] ∧ W.cell? a = some (.string s) ∧ s.data.toList = txt ∧ ∃ c t, W.heap[a.block]? = some (.cells c t (0, 0))) :
    ErrAt [allOf W] tp (.iface tp (.pointer (some (A.getD i ⟨0, 0, none⟩)))) (A.getD i ⟨0, 0, none⟩) ∧ ∃ s : ByteArray, W.cell? (A.getD i ⟨0, 0, none⟩) = some (.string s) ∧ s.data.toList = txt := by
  obtain ⟨a, g', s, hA, hg', hv, hc, ht, c, t, hb⟩ := h
  have : A.getD i ⟨0, 0, none⟩ = a := by rw [List.getD_eq_getElem?_getD, hA]; rfl
  rw [this]
  exact ⟨⟨rfl, c, t, by simpa using allOf_mem hb⟩, s, hc, ht⟩

/- What a flat datum's cells are. -/
mutual
def flatD {H : Type} : DataW H → List Value
  | .lit (.int k z) => [.int k z]
  | .lit (.bool b) => [.bool b]
  | .lit (.string l) => [.string ⟨l.toArray⟩]
  | .lit (.float k b) => [.float k b]
  | .agg ps => flatAll ps
  | _ => []
def flatAll {H : Type} : List (DataW H) → List Value
  | [] => []
  | d :: r => flatD d ++ flatAll r
end
/-- A type of leaves, one behind the other. -/
def contigF (P : Program) : List Field → Nat → Option Nat
  | [], o => some o
  | f :: fs, o => if f.offset = o then contigF P fs (o + P.cellsOf f.type) else none
def flatTy (P : Program) : Nat → TypeId → Bool
  | 0, _ => false
  | n + 1, t => match P.underlying t with
    | some .bool => true
    | some (.int _) => true
    | some .string => true
    | some (.float _) => true
    | some (.struct fs) => contigF P fs.toList 0 == some (P.cellsOf t) && fs.toList.all fun f => flatTy P n f.type
    | some (.array m e) => P.cellsOf t == m * P.cellsOf e && flatTy P n e
    | _ => false
theorem flatAll_append {H : Type} (a b : List (DataW H)) : flatAll (a ++ b) = flatAll a ++ flatAll b := by
  induction a with
  | nil => simp [flatAll]
  | cons x a ih => simp [flatAll, ih]
theorem contig_cells {H : Type} {cs : List Value} : ∀ (fs : List Field) (xs : List (DataW H × List MemPlace)) (o tot : Nat), contigF P fs o = some tot → tot ≤ cs.length → xs.length = fs.length →
    (∀ (i : Nat) (f : Field), fs[i]? = some f → ∃ x, xs[i]? = some x ∧ (cs.drop f.offset).take (P.cellsOf f.type) = flatD x.1) → o ≤ tot ∧ (cs.drop o).take (tot - o) = flatAll (xs.map (·.1)) := by
  intro fs
  induction fs with
  | nil =>
    intro xs o tot h _ hx _
    cases h
    have : xs = [] := List.eq_nil_of_length_eq_zero (by simpa using hx)
    subst this
    exact ⟨Nat.le_refl _, by simp [flatAll]⟩
  | cons f fs ih =>
    intro xs o tot h ht hx hall
    cases xs with
    | nil => simp at hx
    | cons x xs =>
      unfold contigF at h
      split at h
      · rename_i ho
        obtain ⟨x', hx', h0⟩ := hall 0 f rfl
        have : x = x' := by simpa using hx'
        subst this
        obtain ⟨h1, h2⟩ := ih xs _ tot h ht (by simpa using hx) (fun i g hg => by
          obtain ⟨y, hy, h3⟩ := hall (i + 1) g (by simpa using hg)
          exact ⟨y, by simpa using hy, h3⟩)
        refine ⟨by omega, ?_⟩
        simp only [List.map_cons, flatAll]
        rw [← h0, ← h2, ho, ← List.drop_drop]
        have e : tot - o = P.cellsOf f.type + (tot - (o + P.cellsOf f.type)) := by omega
        rw [e, List.take_add]
      · cases h
theorem flat_trod {H : Type} {enc : TypeId × Value → H} {sp : Nat → Bool} {held : Bool} {base : Nat} : ∀ (n : Nat) (t : TypeId) (fuel : Nat) (cs : List Value) (x : DataW H × List MemPlace), flatTy P n t = true →
    DataW.trod enc P W base sp held fuel t cs = some x → cs = flatD x.1 := by
  intro n
  induction n with
  | zero => intro t fuel cs x h; simp [flatTy] at h
  | succ n ih =>
    intro t fuel cs x h hd
    unfold flatTy at h
    split at h
    · rename_i hu
      obtain ⟨b, rfl, rfl⟩ := DataW.trod_bool hu hd
      rfl
    · rename_i hu
      obtain ⟨z, rfl, rfl, _⟩ := DataW.trod_int hu hd
      rfl
    · rename_i hu
      obtain ⟨s, rfl, rfl, _⟩ := DataW.trod_string hu hd
      simp [flatD]
    · rename_i k hu
      cases fuel with
      | zero => simp [DataW.trod] at hd
      | succ m =>
        unfold DataW.trod at hd
        rw [hu] at hd
        split at hd <;> simp_all
        obtain ⟨_, rfl⟩ := hd
        rfl
    · rename_i fs hu
      simp only [Bool.and_eq_true, beq_iff_eq, List.all_eq_true] at h
      obtain ⟨xs, m, _, rfl, hl, hlen, hf⟩ := DataW.trod_struct hu hd
      have := contig_cells (P := P) (cs := cs) fs.toList xs 0 _ h.1 (by omega) (by simpa using hlen) (fun i f hif => by
        have hif2 : fs[i]? = some f := by simpa using hif
        have h1 := hf i f hif2
        have hlt : i < xs.length := by have := (List.getElem?_eq_some_iff.1 hif).1; rw [hlen]; simpa using this
        rw [List.getElem?_eq_getElem hlt] at h1
        exact ⟨_, List.getElem?_eq_getElem hlt, ih _ _ _ _ (h.2 f (List.mem_of_getElem? hif)) h1⟩)
      rw [List.drop_zero, Nat.sub_zero, ← hl, List.take_length] at this
      simp only [flatD]
      exact this.2
    · rename_i m e hu
      simp only [Bool.and_eq_true, beq_iff_eq] at h
      obtain ⟨xs, q, _, rfl, hl, hlen, hf⟩ := DataW.trod_array hu hd
      have key : ∀ k, k ≤ m → (cs.take (k * P.cellsOf e)) = flatAll ((xs.take k).map (·.1)) := by
        intro k
        induction k with
        | zero => intro _; simp [flatAll]
        | succ k ihk =>
          intro hk
          have h1 := hf k (by omega)
          have hlt : k < xs.length := by omega
          rw [List.getElem?_eq_getElem hlt] at h1
          have h2 := ih _ _ _ _ h.2 h1
          rw [Nat.add_mul, Nat.one_mul, List.take_add, ihk (by omega), h2, List.take_succ_eq_append_getElem hlt, List.map_append, flatAll_append]
          simp [flatAll]
      have := key m (Nat.le_refl _)
      rw [← h.1, ← hl, List.take_length, ← hlen, List.take_length] at this
      simp only [flatD]
      exact this
    · cases h

/-- The elements of a slice, each of them read. -/
theorem flat_get {α : Type} (f : α → List Value) (sz : Nat) (hsz : ∀ x, (f x).length = sz) : ∀ (l : List α) (i k : Nat) (x : α), l[i]? = some x → k < sz → ((l.map f).flatten)[i * sz + k]? = (f x)[k]? := by
  intro l
  induction l with
  | nil => intro i k x h; simp at h
  | cons a l ih =>
    intro i k x h hk
    cases i with
    | zero =>
      have : a = x := by simpa using h
      subst this
      simp only [List.map_cons, List.flatten_cons]
      rw [List.getElem?_append_left (by rw [hsz]; omega)]; simp
    | succ i =>
      simp only [List.map_cons, List.flatten_cons]
      rw [List.getElem?_append_right (by rw [hsz, Nat.add_mul]; omega), hsz]
      have e : (i + 1) * sz + k - sz = i * sz + k := by rw [Nat.add_mul]; omega
      rw [e]
      exact ih i k x (by simpa using h) hk
theorem flat_len {α : Type} (f : α → List Value) (sz : Nat) (hsz : ∀ x, (f x).length = sz) (l : List α) : ((l.map f).flatten).length = l.length * sz := by
  induction l with
  | nil => simp
  | cons a l ih => simp only [List.map_cons, List.flatten_cons, List.length_append, List.length_cons, ih, hsz, Nat.add_mul]; omega
theorem cell_block {a : Addr} {v : Value} (h : W.cell? a = some v) : a.spot = none ∧ ∃ C T fz, W.heap[a.block]? = some (.cells C T fz) ∧ C[a.off]? = some v := by
  have hs := World.cell?_spot h
  unfold World.cell? at h
  split at h
  · rename_i C T fz hb
    rw [hs] at h
    exact ⟨hs, C, T, fz, hb, by simpa using h⟩
  · cases h
theorem rd_slice {H : Type} {enc : TypeId × Value → H} {α : Type} {t e : TypeId} {fuel n c sz : Nat} {p : Option Addr} {x : DataW H × List MemPlace} (ht : P.underlying t = some (.slice e))
    (h : DataW.trod enc P W 0 (fun _ => true) true fuel t [.slice p n c] = some x) (f : α → List Value) (Ok : α → Prop) (hsz : P.cellsOf e = sz) (hpos : 0 < sz) (hf : ∀ y, (f y).length = sz)
    (hread : ∀ fuel cs y, DataW.trod enc P W 0 (fun _ => true) true fuel e cs = some y → ∃ z, cs = f z ∧ Ok z) :
    ∃ l : List α, l.length = n ∧ SlAt [allOf W] p ((l.map f).flatten) ∧ (∀ z ∈ l, Ok z) ∧ n ≤ 9223372036854775807 ∧ (n = 0 ∨ ∃ es sp, x.1 = .slice es sp ∧ es.length = n) := by
  rcases DataW.trod_slice ht h with ⟨h0, _⟩ | ⟨a, len, cap, elems, rest, m, _, hcs, hx, hb, hlc, hcm, hel, hE, _, _⟩
  · cases h0
    exact ⟨[], rfl, .inl rfl, fun z hz => (by simp at hz), by omega, .inl rfl⟩
  · cases hcs
    have hall : ∀ i : Fin n, ∃ z, W.cells? 0 (a.add (i.val * sz)) sz = some (f z) ∧ Ok z := by
      intro i
      have h1 := hE i.val i.isLt
      rw [List.getElem?_eq_getElem (by omega), hsz] at h1
      obtain ⟨cs, hc, hy⟩ := Option.bind_eq_some_iff.1 h1
      obtain ⟨z, rfl, hz⟩ := hread _ _ _ hy
      exact ⟨z, hc, hz⟩
    refine ⟨List.ofFn fun i => (hall i).choose, by simp, ?_, ?_, by unfold maxLen at hcm; omega, .inr ⟨_, _, by rw [hx], by simp [hel]⟩⟩
    · rcases Nat.eq_zero_or_pos n with h0 | hn
      · subst h0; exact .inl (by simp)
      · have hcell : ∀ i k, (hi : i < n) → k < sz → ∃ v, W.cell? ((a.add (i * sz)).add k) = some v ∧ (f (hall ⟨i, hi⟩).choose)[k]? = some v := by
          intro i k hi hk
          obtain ⟨_, hl, hc⟩ := World.cells?_some (hall ⟨i, hi⟩).choose_spec.1
          have h1 := hc k hk
          have h2 : k < (f (hall ⟨i, hi⟩).choose).length := by rw [hl]; exact hk
          rw [List.getElem?_eq_getElem h2] at h1 ⊢
          exact ⟨_, h1, rfl⟩
        obtain ⟨v0, hv0, _⟩ := hcell 0 0 hn hpos
        have hv0' : W.cell? a = some v0 := by simpa [Addr.add] using hv0
        obtain ⟨hs, C, T, fz, hblk, _⟩ := cell_block hv0'
        obtain ⟨b, off, spot⟩ := a
        simp only at hs hblk
        subst hs
        refine .inr ⟨b, off, C, T, fz, rfl, by simpa using allOf_mem hblk, fun j hj => ?_⟩
        rw [flat_len f sz hf, List.length_ofFn] at hj
        have hi : j / sz < n := by rw [Nat.div_lt_iff_lt_mul hpos]; exact hj
        have hk : j % sz < sz := Nat.mod_lt _ hpos
        obtain ⟨v, hv, hfv⟩ := hcell (j / sz) (j % sz) hi hk
        have hj2 : j / sz * sz + j % sz = j := by rw [Nat.mul_comm]; exact Nat.div_add_mod j sz
        rw [Addr.add_lit, Addr.add_lit, Nat.add_assoc, hj2] at hv
        have h3 : C[off + j]? = some v := by
          unfold World.cell? at hv
          rw [hblk] at hv
          simpa using hv
        have h4 := flat_get f sz hf (List.ofFn fun i => (hall i).choose) (j / sz) (j % sz) (hall ⟨j / sz, hi⟩).choose (by simp [hi]) hk
        rw [hj2] at h4
        rw [h3, h4, hfv]
    · intro z hz
      obtain ⟨i, rfl⟩ := List.mem_ofFn.1 hz
      exact (hall i).choose_spec.2

/-- A field of a struct that was read. -/
def fieldTy (P : Program) (t i : Nat) : Option (TypeId × Nat × Nat) :=
  match P.underlying t with
  | some (.struct fs) => (fs[i]?).map fun f => (f.type, f.offset, P.cellsOf f.type)
  | _ => none
def isStruct (P : Program) (t : Nat) : Bool := match P.underlying t with | some (.struct _) => true | _ => false
theorem rd_field {H : Type} {enc : TypeId × Value → H} {sp : Nat → Bool} {held : Bool} {base : Nat} {t u : TypeId} {i fuel off n : Nat} {cs : List Value} {x : DataW H × List MemPlace} (h : DataW.trod enc P W base sp held fuel t cs = some x)
    (hf : fieldTy P t i = some (u, off, n)) : ∃ m y ds, DataW.trod enc P W base sp held m u ((cs.drop off).take n) = some y ∧ x.1 = .agg ds ∧ ds[i]? = some y.1 ∧ cs.length = P.cellsOf t := by
  unfold fieldTy at hf
  split at hf
  · rename_i fs hu
    obtain ⟨f, hfi, he⟩ := Option.map_eq_some_iff.1 hf
    cases he
    obtain ⟨xs, m, _, rfl, hl, hlen, hall⟩ := DataW.trod_struct hu h
    have h1 := hall i f hfi
    have hlt : i < xs.length := by
      have := (Array.getElem?_eq_some_iff.1 hfi).1
      omega
    rw [List.getElem?_eq_getElem hlt] at h1
    exact ⟨m, xs[i], _, h1, rfl, by simp [hlt], hl⟩
  · cases hf
theorem rd_int {H : Type} {enc : TypeId × Value → H} {sp : Nat → Bool} {held : Bool} {base : Nat} {t : TypeId} {k : IntKind} {fuel : Nat} {c : Value} {x : DataW H × List MemPlace} (hk : P.underlying t = some (.int k))
    (h : DataW.trod enc P W base sp held fuel t [c] = some x) : ∃ z, c = .int k z ∧ (Lit.int k z).wf = true := by
  obtain ⟨z, hc, _, hw⟩ := DataW.trod_int hk h
  exact ⟨z, by simpa using hc, hw⟩
theorem wf_i64 {z : Int} (h : (Lit.int .i64 z).wf = true) : -9223372036854775808 ≤ z ∧ z ≤ 9223372036854775807 := by
  simpa [Lit.wf, IntKind.min, IntKind.max, IntKind.signed, IntKind.bits] using h
theorem wf_u64 {z : Int} (h : (Lit.int .u64 z).wf = true) : 0 ≤ z ∧ z ≤ 18446744073709551615 := by
  simpa [Lit.wf, IntKind.min, IntKind.max, IntKind.signed, IntKind.bits] using h
theorem wf_u8 {z : Int} (h : (Lit.int .u8 z).wf = true) : 0 ≤ z ∧ z ≤ 255 := by
  simpa [Lit.wf, IntKind.min, IntKind.max, IntKind.signed, IntKind.bits] using h

/-- Whether the type of errors.New's pointer is what it should be. -/
def errTypeB (P : Program) (ti tp te ts : TypeId) : Bool :=
  (match P.underlying ti with | some (.interface _) => true | _ => false) && (match P.underlying tp with | some (.pointer e) => e == te | _ => false) &&
  (match P.underlying te with | some (.struct fs) => (match fs.toList with | [f] => f.type == ts && f.offset == 0 | _ => false) | _ => false) &&
  (match P.underlying ts with | some .string => true | _ => false) && P.cellsOf te == 1 && P.cellsOf ts == 1
theorem ErrType.of {T : String} {ti tp te ts : TypeId} (h : errTypeB P ti tp te ts = true) (hrow : ∀ u, P.typeName? 3 u = some T → u = tp) : ErrType P T ti tp te ts := by
  unfold errTypeB at h
  simp only [Bool.and_eq_true, beq_iff_eq] at h
  obtain ⟨⟨⟨⟨⟨h1, h2⟩, h3⟩, h4⟩, h5⟩, h6⟩ := h
  refine ⟨?_, hrow, ?_, ?_, ?_, h5, h6⟩
  · split at h1
    · exact ⟨_, by assumption⟩
    · cases h1
  · split at h2
    · rename_i e hu; rw [hu]; congr 2; simpa using h2
    · cases h2
  · split at h3
    · rename_i fs hu
      split at h3
      · rename_i f hf
        simp only [Bool.and_eq_true, beq_iff_eq] at h3
        exact ⟨f, by rw [hu]; congr 2; apply Array.ext'; simpa using hf, h3.1, h3.2⟩
      · cases h3
    · cases h3
  · split at h4
    · assumption
    · cases h4

theorem trodAll_below {H : Type} {enc : TypeId × Value → H} (hl : laidOutB P = true) {W' : World} (hb : Below W.heap.size W W') : ∀ (ts : List TypeId) (vs : List Value) (ds : List (DataW H)) (ps : List MemPlace),
    (ts.all fun t => P.readableRec t && decide (t < P.types.size)) = true → DataW.TrodAll enc P W 0 (fun _ => true) true ts vs ds ps → (∀ x ∈ ps, x.block < W.heap.size) → DataW.TrodAll enc P W' 0 (fun b => decide (b < W.heap.size)) true ts vs ds ps := by
  intro ts
  induction ts with
  | nil => intro vs ds ps _ h _; obtain ⟨rfl, rfl, rfl⟩ := trodAll_nil h; exact trodAll_mk0
  | cons t ts ih =>
    intro vs ds ps ha h hlt
    obtain ⟨v, vs', d, ds', p, q, rfl, rfl, rfl, hd, hr⟩ := trodAll_cons h
    simp only [List.all_cons, Bool.and_eq_true, decide_eq_true_eq] at ha
    exact ⟨p, q, Below.trod hl ha.1.1 ha.1.2 hd hb (fun x hx => hlt x (List.mem_append_left _ hx)), ih _ _ _ ha.2 hr (fun x hx => hlt x (List.mem_append_right _ hx)), rfl⟩
/-- A law's call that answers true and leaves what was there: the row's postcondition. -/
theorem post_true {H : Type} {enc : TypeId × Value → H} {f : Func} {s : ChangeSpec} {args : Array Value} {ds gs : List (DataW H)} {before : List MemPlace} {W' : World} {tb : TypeId} (hl : laidOutB P = true) (hb : Below W.heap.size W W')
    (hpar : (f.params.toList.all fun t => P.readableRec t && decide (t < P.types.size)) = true) (hrt : f.resultTypes = #[tb]) (htb : P.underlying tb = some .bool) (hv : s.vars = [])
    (hW : DataW.Whole enc P f.params.toList s.vars false W args.toList ds gs before) (hfn : s.fn H ds = { results := [.lit (.bool true)], args := ds }) : s.post enc P f false true false false W args (.bool true) W' := by
  have hlt := hW.lt
  have hW' := hW
  obtain ⟨p, q, hA, hV, rfl, _, _⟩ := hW
  rw [hv] at hV
  obtain ⟨rfl, rfl⟩ := trodVars_none hV
  refine ⟨ds, [], _, [], p, [], hW', ?_, ?_, ?_, hb.frame _, fun h => (by cases h)⟩
  · rw [List.append_nil, hfn, hrt]
    exact trodAll_mk1 ⟨1, by simp [DataW.trod, Value.cells, htb]⟩
  · rw [List.append_nil, hfn]
    exact trodAll_below hl hb _ _ _ _ hpar hA (fun x hx => hlt x (List.mem_append_left _ hx))
  · rw [List.append_nil, hfn, hv]; rfl
theorem calls_true {H : Type} {enc : TypeId × Value → H} {g : FuncId} {f : Func} {s : ChangeSpec} {l : List Value} {ds gs : List (DataW H)} {before : List MemPlace} {tb : TypeId} (hl : laidOutB P = true)
    (hR : Ret P g l W fun v w' => v = .bool true ∧ Hp W w' [allOf W])
    (hpar : (f.params.toList.all fun t => P.readableRec t && decide (t < P.types.size)) = true) (hrt : f.resultTypes = #[tb]) (htb : P.underlying tb = some .bool) (hv : s.vars = [])
    (hW : DataW.Whole enc P f.params.toList s.vars false W l.toArray.toList ds gs before) (hfn : s.fn H ds = { results := [.lit (.bool true)], args := ds }) :
    Calls P g l.toArray W fun e W' => ∃ v, e = .returned v ∧ s.post enc P f false true false false W l.toArray v W' :=
  Calls.mono hR fun e W' h => by
    obtain ⟨v, rfl, rfl, hH⟩ := h
    exact ⟨_, rfl, post_true hl (hH.below (i := 0) rfl) hpar hrt htb hv hW hfn⟩
end
end Go.Eng
