/- General rules for stepping through a function: no program stands in them. -/
import Derived.Test.YtfpphoapknecfaaGreatDoorBesafterEng5
import Derived.Laws.Strings
namespace Go.Eng
open Go
variable {D : List Deferred}

theorem OwnSl.ptr {e size n cap : Nat} {p : Option Addr} {xs : List Value} {s : Seg} (h : OwnSl e size p n cap xs s) (hn : 0 < n) :
    ∃ g l, p = some ⟨g, 0, none⟩ ∧ s = [(g, cel l e)] ∧ n ≤ cap ∧ l.length = cap * size ∧ l.take xs.length = xs := by
  obtain ⟨_, ⟨_, h0, _⟩ | h⟩ := h
  · omega
  · exact h
def isErr : Value → Bool
  | .nilIface | .iface _ _ => true
  | _ => false
def isNil : Value → Bool
  | .nilIface => true
  | _ => false
def isIface (P : Program) (t : TypeId) : Bool :=
  match P.underlying t with
  | some (.interface _) => true
  | _ => false
/-- What a package-level variable of one cell holds. -/
def GVal (L : List Seg) (g : Nat) (v : Value) : Prop := ∃ C T fz, (g, Obj.cells C T fz) ∈ L.flatten ∧ C[0]? = some v
theorem GVal.cons {L : List Seg} {s : Seg} {g : Nat} {v : Value} (h : GVal L g v) : GVal (s :: L) g v := by
  obtain ⟨C, T, fz, hm, hc⟩ := h
  exact ⟨C, T, fz, by simp only [List.flatten_cons, List.mem_append]; exact .inr hm, hc⟩
/-- A listed error: where it lies, and that it is none. -/
structure GErr (L : List Seg) (g : Nat) (v : Value) : Prop where
  at_ : GVal L g v
  ie : isErr v = true
  nn : isNil v = false
theorem GErr.cons {L : List Seg} {s : Seg} {g : Nat} {v : Value} (h : GErr L g v) : GErr (s :: L) g v := ⟨h.at_.cons, h.ie, h.nn⟩

theorem bytesL_inj {a b : ByteArray} : (a.toList == b.toList) = decide (a = b) := by
  rw [ByteArray.toList_eq, ByteArray.toList_eq]
  by_cases e : a = b
  · simp [e]
  · have h : ¬ a.data.toList = b.data.toList := fun h2 => e (by cases a; cases b; congr 1; exact Array.ext' h2)
    rw [decide_eq_false e]; exact beq_eq_false_iff_ne.2 h

section
variable {P : Program} {ρ : Operand → Value} {w w0 : World} {L : List Seg} {d : Option Tmp} {ty : TypeId} {pos : String} {af : Array Edge} {g : Option (Nat × Bool)} {x y : Operand}

theorem equal_ifaceNil {t : TypeId} {v : Value} (ht : isIface P t = true) (hv : isErr v = true) : (Op.equal t v .nilIface).run P w = .ok (isNil v) w := by
  unfold isIface at ht
  split at ht
  · rename_i ms hu
    unfold Op.equal Op.maxDepth Op.equalIn
    simp only [Sem.run_bind, run_underlying hu, Result.andThen_ok]
    cases v <;> first | rfl | cases hv
  · cases ht
theorem eqGuard_const {op : BinOp} {t : TypeId} {c u : Value} (h : isErr u = true) : eqGuard op t x (.const c) u .nilIface = pure () := by
  cases u
  case iface a b => exact eqGuard_at_iface ..
  case nilIface => exact eqGuard_nil_constR ..
  all_goals exact absurd h (by simp [isErr])
theorem RX.ifnil_eql {t t' : TypeId} {v : Value} (hx : ρ x = v) (hy : ρ (.const .nilIface) = .nilIface) (hv : isErr v = true) (ht : isIface P t = true) :
    Runs P ρ ⟨d, .binOp .eql t x (.const .nilIface) t', ty, pos, af, g⟩ w (.bool (isNil v)) := by
  have h1 : (binOp .eql t v .nilIface).run P w = .ok (.bool (isNil v)) w := by
    have := equal_ifaceNil (w := w) ht hv
    cases v
    case iface a b => simp only [binOp]; simp [this]
    case nilIface => simp only [binOp]; simp [this]
    all_goals exact absurd hv (by simp [isErr])
  unfold Runs
  simp [execOp, hx, hy, eqGuard_const hv, h1]
theorem RX.ifnil_neq {t t' : TypeId} {v : Value} (hx : ρ x = v) (hy : ρ (.const .nilIface) = .nilIface) (hv : isErr v = true) (ht : isIface P t = true) :
    Runs P ρ ⟨d, .binOp .neq t x (.const .nilIface) t', ty, pos, af, g⟩ w (.bool (!isNil v)) := by
  have h1 : (binOp .neq t v .nilIface).run P w = .ok (.bool (!isNil v)) w := by
    have := equal_ifaceNil (w := w) ht hv
    cases v
    case iface a b => simp only [binOp]; simp [this]
    case nilIface => simp only [binOp]; simp [this]
    all_goals exact absurd hv (by simp [isErr])
  unfold Runs
  simp [execOp, hx, hy, eqGuard_const hv, h1]
theorem RX.str_eql {t t' : TypeId} {a b : ByteArray} (hx : ρ x = .string a) (hy : ρ y = .string b) : Runs P ρ ⟨d, .binOp .eql t x y t', ty, pos, af, g⟩ w (.bool (decide (a = b))) := by
  unfold Runs
  simp only [execOp, hx, hy, eqGuard_at_string, binOp, Op.stringOp, bytesL_inj]; rfl
theorem RX.str_neq {t t' : TypeId} {a b : ByteArray} (hx : ρ x = .string a) (hy : ρ y = .string b) : Runs P ρ ⟨d, .binOp .neq t x y t', ty, pos, af, g⟩ w (.bool (decide (¬ a = b))) := by
  unfold Runs
  have : (!decide (a = b)) = decide (¬ a = b) := by by_cases h : a = b <;> simp [h]
  simp only [execOp, hx, hy, eqGuard_at_string, binOp, Op.stringOp, bytesL_inj, this]; rfl
theorem equal_bool {t : TypeId} {a b : Bool} (ht : P.underlying t = some .bool) : (Op.equal t (.bool a) (.bool b)).run P w = .ok (a == b) w := by
  unfold Op.equal Op.maxDepth Op.equalIn
  simp only [Sem.run_bind, run_underlying ht, Result.andThen_ok]
  rfl
theorem RX.bool_eql {t t' : TypeId} {a b : Bool} (hx : ρ x = .bool a) (hy : ρ y = .bool b) (ht : P.underlying t = some .bool) : Runs P ρ ⟨d, .binOp .eql t x y t', ty, pos, af, g⟩ w (.bool (a == b)) := by
  unfold Runs
  simp only [execOp, hx, hy, eqGuard_at_bool, binOp]
  simp [equal_bool ht]
theorem RX.bool_neq {t t' : TypeId} {a b : Bool} (hx : ρ x = .bool a) (hy : ρ y = .bool b) (ht : P.underlying t = some .bool) : Runs P ρ ⟨d, .binOp .neq t x y t', ty, pos, af, g⟩ w (.bool (!(a == b))) := by
  unfold Runs
  simp only [execOp, hx, hy, eqGuard_at_bool, binOp]
  simp [equal_bool ht]
theorem RX.loadG {t gn : Nat} {v : Value} (H : Hp w0 w L) (hx : ρ x = .pointer (some ⟨gn, 0, none⟩)) (hg : GVal L gn v) (ht : oneOf P t = true) : Runs P ρ ⟨d, .load t x, ty, pos, af, g⟩ w v := by
  obtain ⟨C, T, fz, hm, hc⟩ := hg
  have hb := H.mem _ hm
  simp only at hb
  have hcell : w.cell? ⟨gn, 0, none⟩ = some v := by simp [World.cell?, hb, hc]
  unfold Runs
  simp [execOp, hx, Instr.loadAt, Instr.sureAddr, loadVar, isAgg_one ht, hcell]
theorem arrayOf_run {t n e sz : Nat} (h : arrayOf P t = some (n, e, sz)) : P.underlying t = some (.array n e) ∧ ∃ i, P.info? e = some i ∧ i.size = sz := by
  unfold arrayOf at h
  split at h
  · rename_i n2 e2 hu
    cases hi : P.info? e2 with
    | none => simp [hi] at h
    | some i =>
      simp only [hi, Option.map_some, Option.some.injEq, Prod.mk.injEq] at h
      obtain ⟨rfl, rfl, rfl⟩ := h
      exact ⟨hu, i, hi, rfl⟩
  · cases h
theorem RX.indexArr {t e sz b o n o' : Nat} {k : IntKind} {i : Int} (hx : ρ x = .pointer (some ⟨b, o, none⟩)) (hi : ρ y = .int k i) (ht : arrayOf P t = some (n, e, sz))
    (h0 : 0 ≤ i) (h1 : i < (n : Int)) (ho : o + i.toNat * sz = o') : Runs P ρ ⟨d, .indexAddr t x y, ty, pos, af, g⟩ w (.pointer (some ⟨b, o', none⟩)) := by
  subst ho
  obtain ⟨hu, inf, hinf, hsz⟩ := arrayOf_run ht
  unfold Runs
  simp [execOp, hx, hi, Instr.indexAt, asIntOf, run_underlying hu, Instr.sureAddr, h0, h1, sizeOf, typeInfo, hinf, hsz, Addr.add_lit]
/-- An element of an array that is a value, one cell. -/
theorem RX.index {t e n : Nat} {k : IntKind} {i : Int} {vs : List Value} {v : Value} (hx : ρ x = .agg vs.toArray) (hi : ρ y = .int k i) (ht : arrayOf P t = some (n, e, 1)) (h1e : oneOf P e = true)
    (h0 : 0 ≤ i) (h1 : i < (n : Int)) (hv : vs[i.toNat]? = some v) : Runs P ρ ⟨d, .index t x y, ty, pos, af, g⟩ w v := by
  obtain ⟨hu, inf, hinf, hsz⟩ := arrayOf_run ht
  unfold Runs
  simp [execOp, hx, hi, Instr.index, asIntOf, run_underlying hu, h0, h1, sizeOf, typeInfo, hinf, hsz, part, isAgg_one h1e, hv]
theorem RX.indexStr {t : TypeId} {k : IntKind} {i : Int} {s : ByteArray} {b : UInt8} (hx : ρ x = .string s) (hi : ρ y = .int k i) (ht : P.underlying t = some .string) (h0 : 0 ≤ i) (hb : s.data.toList[i.toNat]? = some b) :
    Runs P ρ ⟨d, .index t x y, ty, pos, af, g⟩ w (.int .u8 (b.toNat : Int)) := by
  have h2 : s[i.toNat]? = some b := by
    have : s[i.toNat]? = s.data[i.toNat]? := rfl
    rw [this]; simpa using hb
  unfold Runs
  simp [execOp, hx, hi, Instr.index, asIntOf, run_underlying ht, h0, h2]

theorem setCells_run {T : TypeId} {b i : Nat} : ∀ (vs : List Value) (l : List Value) (w : World) (L : List Seg) (o j : Nat), Hp w0 w L → L[i]? = some [(b, cel l T)] → (∀ v ∈ vs, isCell v = true) → o + j + vs.length ≤ l.length →
    ∃ w', (storeCells ⟨b, o, none⟩ vs j).run P w = .ok () w' ∧ Hp w0 w' (L.set i [(b, cel (setN l (o + j) vs) T)]) := by
  intro vs
  induction vs with
  | nil =>
    intro l w L o j H hi _ _
    refine ⟨w, by simp [storeCells], ?_⟩
    simp only [setN]
    have : L.set i [(b, cel l T)] = L := by
      apply List.ext_getElem?; intro q
      rw [List.getElem?_set]
      split
      · rename_i hq; subst hq; split
        · exact hi.symm
        · rename_i h; exact absurd (List.getElem?_eq_some_iff.1 hi).1 h
      · rfl
    rw [this]; exact H
  | cons v vs ih =>
    intro l w L o j H hi hv ho
    simp only [List.length_cons] at ho
    have hc := H.cell hi (o + j)
    rw [List.getElem?_eq_getElem (by omega)] at hc
    have hfz := H.frozen hi (o + j)
    have hst : (Go.store ⟨b, o + j, none⟩ v).run P w = .ok () (w.setCell ⟨b, o + j, none⟩ v) := by
      have h0 := hv v (List.mem_cons_self)
      rw [run_store P w ⟨b, o + j, none⟩ v .plain (by cases v <;> first | rfl | cases h0)]
      rw [hc, hfz]; rfl
    have H2 := H.setCell hi (o + j) v
    have hi2 : (L.set i [(b, cel (l.set (o + j) v) T)])[i]? = some [(b, cel (l.set (o + j) v) T)] := List.getElem?_set_self (List.getElem?_eq_some_iff.1 hi).1
    obtain ⟨w', hr, H3⟩ := ih _ _ _ o (j + 1) H2 hi2 (fun u hu => hv u (List.mem_cons_of_mem _ hu)) (by simp; omega)
    refine ⟨w', ?_, ?_⟩
    · simp only [storeCells, Sem.run_bind, Addr.add_lit, hst, Result.andThen_ok, hr]
    · rw [List.set_set] at H3
      simpa [setN, Nat.add_assoc] using H3
theorem EX.storeAgg {t T : TypeId} {b o i : Nat} {l l' vs : List Value} {L' : List Seg} (H : Hp w0 w L) (hx : ρ x = .pointer (some ⟨b, o, none⟩)) (hy : ρ y = .agg vs.toArray) (hi : L[i]? = some [(b, cel l T)])
    (hv : ∀ v ∈ vs, isCell v = true) (ho : o + vs.length ≤ l.length) (ht : szOf P t = some vs.length) (hl : setN l o vs = l') (hL : L.set i [(b, cel l' T)] = L') :
    Does P ρ ⟨d, .store t x y, ty, pos, af, g⟩ w fun _ w' => Hp w0 w' L' := by
  subst hl hL
  obtain ⟨w', hr, H'⟩ := setCells_run (P := P) vs l w L o 0 H hi hv (by omega)
  refine Does.of_skip (w' := w') ?_ (by simpa using H')
  simp [execOp, hx, hy, Instr.storeAt, Instr.sureAddr, storeVar, szOf_run ht, Value.cells, hr]

/-- A struct or an array literal: what the model builds of these values. -/
theorem RX.build {t : TypeId} {parts : List (Nat × Operand)} {pv : List (Nat × Value)} {res : List Value} (hp : parts.map (fun q => (q.1, ρ q.2)) = pv)
    (hb : (Instr.build t pv.toArray).run P w = .ok (.agg res.toArray) w) : Runs P ρ ⟨d, .build t parts.toArray, ty, pos, af, g⟩ w (.agg res.toArray) := by
  subst hp
  unfold Runs
  simp only [execOp, Sem.run_bind, List.map_toArray]
  rw [hb]; rfl
/-- A slice literal. -/
theorem EX.buildSlice {t e len : Nat} {parts : List (Nat × Operand)} {pv : List (Nat × Value)} {l : List Value} (H : Hp w0 w L) (hp : parts.map (fun q => (q.1, ρ q.2)) = pv)
    (hb : (Instr.buildSlice t len pv.toArray).run P w = .ok (.slice (some ⟨w.heap.size, 0, none⟩) len len) (w.alloc (cel l e))) :
    Does P ρ ⟨d, .buildSlice t len parts.toArray, ty, pos, af, g⟩ w fun u w' => ∃ b, u = .slice (some ⟨b, 0, none⟩) len len ∧ Hp w0 w' ([(b, cel l e)] :: L) := by
  subst hp
  refine Does.of_run (v := .slice (some ⟨w.heap.size, 0, none⟩) len len) (w' := w.alloc (cel l e)) ?_ ⟨_, rfl, H.alloc _⟩
  simp only [execOp, Sem.run_bind, List.map_toArray]
  rw [hb]; rfl
theorem run_loadAgg {t T : TypeId} {b o i sz : Nat} {l vs : List Value} (H : Hp w0 w L) (hi : L[i]? = some [(b, cel l T)]) (hv : readN l o sz = some vs) (ht : aggOf P t = some sz) :
    (loadVar t ⟨b, o, none⟩).run P w = .ok (.agg vs.toArray) w := by
  have := RX.loadAgg (P := P) (ρ := fun _ => .pointer (some ⟨b, o, none⟩)) (d := none) (ty := 0) (pos := "") (af := #[]) (g := none) (x := .tmp 0) H rfl hi hv ht
  unfold Runs at this
  simp only [execOp, Instr.loadAt, Instr.sureAddr, Sem.run_bind, Sem.run_pure, Result.andThen_ok] at this
  generalize (loadVar t ⟨b, o, none⟩).run P w = r at this
  cases r with
  | halt h w2 => cases this
  | ok v w2 => simp at this; rw [this.1, this.2]
end

section
variable {P : Program} {f : FuncId} {n : Nat} {R : Ending → World → Prop} {k : List Item} {σ : Env} {w w0 : World} {L : List Seg}
/-- A result that lies in memory. -/
theorem J.retc {fn : Func} {a t T b o i sz : Nat} {l vs : List Value} (hf : P.funcs[f]? = some fn) (h : fn.results = #[.cell a t]) (H : Hp w0 w L) (hp : ev n σ (.tmp a) = .pointer (some ⟨b, o, none⟩)) (hi : L[i]? = some [(b, cel l T)])
    (hv : readN l o sz = some vs) (ht : aggOf P t = some sz) (hR : R (.returned (.agg vs.toArray)) w) : J [] P (.fn f) n R (.code .ret :: k) σ w :=
  J.ret_of hf (fun a' ha => by
    have h1 := ha.tmp a
    rw [hp, Array.getD_eq_getD_getElem?] at h1
    simp [results, h, h1, asAddr, run_loadAgg H hi hv ht]) hR
theorem J.retct {fn : Func} {a t T b o i sz u : Nat} {l vs : List Value} {x : Value} (hf : P.funcs[f]? = some fn) (h : fn.results = #[.cell a t, .tmp u]) (H : Hp w0 w L) (hp : ev n σ (.tmp a) = .pointer (some ⟨b, o, none⟩)) (hi : L[i]? = some [(b, cel l T)])
    (hv : readN l o sz = some vs) (ht : aggOf P t = some sz) (hx : ev n σ (.tmp u) = x) (hR : R (.returned (.tuple #[.agg vs.toArray, x])) w) : J [] P (.fn f) n R (.code .ret :: k) σ w :=
  J.ret_of hf (fun a' ha => by
    have h1 := ha.tmp a
    have h2 := ha.tmp u
    rw [hp, Array.getD_eq_getD_getElem?] at h1
    rw [hx, Array.getD_eq_getD_getElem?] at h2
    simp [results, h, h1, h2, asAddr, run_loadAgg H hi hv ht]) hR
end
end Go.Eng
