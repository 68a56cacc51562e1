/- General rules for stepping through a function: no program stands in them. -/
import Derived.Test.YtfpphoapknecfaaGreatDoorBesafterEng3
import Derived.Laws.AppendOwn
import Derived.Laws.Entries
import Derived.IntWalk
namespace Go.Eng
open Go
variable {D : List Deferred}

/-- How many cells a variable of the type takes. -/
def szOf (P : Program) (t : TypeId) : Option Nat := (P.info? t).map (·.size)
/-- Is a variable of this type one cell (no struct, no array)? -/
def oneOf (P : Program) (t : TypeId) : Bool :=
  match P.underlying t with
  | some (.struct _) | some (.array _ _) | none => false
  | _ => (P.info? t).map (·.size) == some 1
/-- The cells of a variable of a struct or an array. -/
def aggOf (P : Program) (t : TypeId) : Option Nat :=
  match P.underlying t with
  | some (.struct _) | some (.array _ _) => (P.info? t).map (·.size)
  | _ => none
/-- Where field i of a struct begins. -/
def fieldOff (P : Program) (s : TypeId) (i : Nat) : Option Nat :=
  match P.underlying s with
  | some (.struct fs) =>
    match fs[i]? with
    | some f => match P.info? f.type with
      | some j => if j.size = 0 then none else some f.offset
      | none => none
    | none => none
  | _ => none
/-- A slice type: its element's type and cells. -/
def sliceOf (P : Program) (t : TypeId) : Option (TypeId × Nat) :=
  match P.underlying t with
  | some (.slice e) => (P.info? e).map fun i => (e, i.size)
  | _ => none
def arrayOf (P : Program) (t : TypeId) : Option (Nat × TypeId × Nat) :=
  match P.underlying t with
  | some (.array n e) => (P.info? e).map fun i => (n, e, i.size)
  | _ => none
def kindOf (P : Program) (t : TypeId) : Option IntKind :=
  match P.underlying t with
  | some (.int k) => some k
  | _ => none
def isCell : Value → Bool
  | .agg _ | .tuple _ => false
  | _ => true
/-- sz cells from off on. -/
def readN (l : List Value) (off sz : Nat) : Option (List Value) := let r := (l.drop off).take sz; if r.length = sz then some r else none
def setN : List Value → Nat → List Value → List Value
  | l, _, [] => l
  | l, o, v :: vs => setN (l.set o v) (o + 1) vs

section
variable {P : Program} {ρ : Operand → Value} {w w0 : World} {L : List Seg} {d : Option Tmp} {ty : TypeId} {pos : String} {af : Array Edge} {g : Option (Nat × Bool)} {x y : Operand}

theorem RX.move : Runs P ρ ⟨d, .move x, ty, pos, af, g⟩ w (ρ x) := rfl
theorem RX.assign : Runs P ρ ⟨d, .assign x, ty, pos, af, g⟩ w (ρ x) := rfl
theorem RX.movev {v : Value} (h : ρ x = v) : Runs P ρ ⟨d, .move x, ty, pos, af, g⟩ w v := by subst h; rfl
theorem RX.assignv {v : Value} (h : ρ x = v) : Runs P ρ ⟨d, .assign x, ty, pos, af, g⟩ w v := by subst h; rfl
theorem RX.pick {c : Operand} {b : Bool} (hc : ρ c = .bool b) : Runs P ρ ⟨d, .pick c x y, ty, pos, af, g⟩ w (if b then ρ x else ρ y) := by
  unfold Runs; simp [execOp, hc, asBool]
theorem RX.pick_t {c : Operand} {b : Bool} (hc : ρ c = .bool b) (hb : b = true) : Runs P ρ ⟨d, .pick c x y, ty, pos, af, g⟩ w (ρ x) := by
  have := RX.pick (P := P) (w := w) (d := d) (ty := ty) (pos := pos) (af := af) (g := g) (x := x) (y := y) hc
  rwa [if_pos hb] at this
theorem RX.pick_f {c : Operand} {b : Bool} (hc : ρ c = .bool b) (hb : b = false) : Runs P ρ ⟨d, .pick c x y, ty, pos, af, g⟩ w (ρ y) := by
  have := RX.pick (P := P) (w := w) (d := d) (ty := ty) (pos := pos) (af := af) (g := g) (x := x) (y := y) hc
  rwa [if_neg (by simp [hb])] at this
theorem RX.extract {i : Nat} {vs : List Value} {v : Value} (hx : ρ x = .tuple vs.toArray) (hv : vs[i]? = some v) : Runs P ρ ⟨d, .extract x i, ty, pos, af, g⟩ w v := by
  unfold Runs; simp [execOp, hx, Instr.extract, hv]
theorem RX.nilCheck {a : Addr} (hx : ρ x = .pointer (some a)) : Runs P ρ ⟨d, .nilCheck x, ty, pos, af, g⟩ w (.pointer (some a)) := by
  unfold Runs; simp [execOp, hx]
theorem RX.makeFunc {fn : Fn} {f c : List Operand} {fv cv : List Value} (hf : f.map ρ = fv) (hc : c.map ρ = cv) :
    Runs P ρ ⟨d, .makeFunc fn f.toArray c.toArray, ty, pos, af, g⟩ w (.func fn fv.toArray cv.toArray) := by
  unfold Runs; simp [execOp, Instr.makeFunc, hf, hc]
theorem RX.not {b : Bool} {t : TypeId} (hx : ρ x = .bool b) : Runs P ρ ⟨d, .unOp .not t x, ty, pos, af, g⟩ w (.bool (!b)) := by
  unfold Runs; simp [execOp, hx, Op.unary]
theorem RX.not_d {p : Prop} [Decidable p] {t : TypeId} (hx : ρ x = .bool (decide p)) : Runs P ρ ⟨d, .unOp .not t x, ty, pos, af, g⟩ w (.bool (decide (¬ p))) := by
  unfold Runs; simp [execOp, hx, Op.unary]

section ints
variable {k : IntKind} {a b r : Int} {t t' : TypeId}
theorem RX.add (hx : ρ x = .int k a) (hy : ρ y = .int k b) (hr : k.wrap (a + b) = r) : Runs P ρ ⟨d, .binOp .add t x y t', ty, pos, af, g⟩ w (.int k r) := by
  subst hr; unfold Runs; simp [execOp, hx, hy, eqGuard_add, binOp_add, Op.intArith]
theorem RX.sub (hx : ρ x = .int k a) (hy : ρ y = .int k b) (hr : k.wrap (a - b) = r) : Runs P ρ ⟨d, .binOp .sub t x y t', ty, pos, af, g⟩ w (.int k r) := by
  subst hr; unfold Runs; simp [execOp, hx, hy, eqGuard_sub, binOp_sub, Op.intArith]
theorem RX.mul (hx : ρ x = .int k a) (hy : ρ y = .int k b) (hr : k.wrap (a * b) = r) : Runs P ρ ⟨d, .binOp .mul t x y t', ty, pos, af, g⟩ w (.int k r) := by
  subst hr; unfold Runs; simp [execOp, hx, hy, eqGuard_mul, binOp_mul, Op.intArith]
theorem RX.quo (hx : ρ x = .int k a) (hy : ρ y = .int k b) (hb : b ≠ 0) (hr : k.wrap (a.tdiv b) = r) : Runs P ρ ⟨d, .binOp .quo t x y t', ty, pos, af, g⟩ w (.int k r) := by
  subst hr; unfold Runs; simp [execOp, hx, hy, eqGuard_quo, binOp_quo, Op.intDiv, hb]
theorem RX.rem (hx : ρ x = .int k a) (hy : ρ y = .int k b) (hb : b ≠ 0) (hr : a.tmod b = r) : Runs P ρ ⟨d, .binOp .rem t x y t', ty, pos, af, g⟩ w (.int k r) := by
  subst hr; unfold Runs; simp [execOp, hx, hy, eqGuard_rem, binOp_rem, Op.intDiv, hb]
theorem RX.and (hx : ρ x = .int k a) (hy : ρ y = .int k b) (hr : k.wrap ((BitVec.ofInt k.bits a &&& BitVec.ofInt k.bits b).toNat) = r) : Runs P ρ ⟨d, .binOp .and t x y t', ty, pos, af, g⟩ w (.int k r) := by
  subst hr; unfold Runs; simp [execOp, hx, hy, eqGuard_and, binOp_and, Op.intBits]
theorem RX.or (hx : ρ x = .int k a) (hy : ρ y = .int k b) (hr : k.wrap ((BitVec.ofInt k.bits a ||| BitVec.ofInt k.bits b).toNat) = r) : Runs P ρ ⟨d, .binOp .or t x y t', ty, pos, af, g⟩ w (.int k r) := by
  subst hr; unfold Runs; simp [execOp, hx, hy, eqGuard_or, binOp_or, Op.intBits]
theorem RX.xor (hx : ρ x = .int k a) (hy : ρ y = .int k b) (hr : k.wrap ((BitVec.ofInt k.bits a ^^^ BitVec.ofInt k.bits b).toNat) = r) : Runs P ρ ⟨d, .binOp .xor t x y t', ty, pos, af, g⟩ w (.int k r) := by
  subst hr; unfold Runs; simp [execOp, hx, hy, eqGuard_xor, binOp_xor, Op.intBits]
theorem RX.shl {k' : IntKind} (hx : ρ x = .int k a) (hy : ρ y = .int k' b) (hb : 0 ≤ b) (hr : k.wrap (a * 2 ^ (min b.toNat k.bits)) = r) : Runs P ρ ⟨d, .binOp .shl t x y t', ty, pos, af, g⟩ w (.int k r) := by
  subst hr; unfold Runs; simp [execOp, hx, hy, eqGuard_shl, binOp_shl, Op.shift, Int.not_lt.2 hb]
theorem RX.shr {k' : IntKind} (hx : ρ x = .int k a) (hy : ρ y = .int k' b) (hb : 0 ≤ b) (hr : a / (2 ^ (min b.toNat k.bits) : Int) = r) : Runs P ρ ⟨d, .binOp .shr t x y t', ty, pos, af, g⟩ w (.int k r) := by
  have : a.fdiv (2 ^ (min b.toNat k.bits) : Int) = r := by rw [Int.fdiv_eq_ediv_of_nonneg _ (by exact Int.le_of_lt (Int.pow_pos (by decide)))]; exact hr
  subst this; unfold Runs; simp [execOp, hx, hy, eqGuard_shr, binOp_shr, Op.shift, Int.not_lt.2 hb]
theorem RX.eq (hx : ρ x = .int k a) (hy : ρ y = .int k b) : Runs P ρ ⟨d, .binOp .eql t x y t', ty, pos, af, g⟩ w (.bool (decide (a = b))) := by
  unfold Runs; simp only [execOp, hx, hy, eqGuard_at_int, binOp_eql]; rfl
theorem RX.ne (hx : ρ x = .int k a) (hy : ρ y = .int k b) : Runs P ρ ⟨d, .binOp .neq t x y t', ty, pos, af, g⟩ w (.bool (decide (¬ a = b))) := by
  unfold Runs; simp only [execOp, hx, hy, eqGuard_at_int, binOp_neq]
  have : (a != b) = decide (¬ a = b) := by by_cases h : a = b <;> simp [h]
  rw [this]; rfl
theorem RX.lt (hx : ρ x = .int k a) (hy : ρ y = .int k b) : Runs P ρ ⟨d, .binOp .lss t x y t', ty, pos, af, g⟩ w (.bool (decide (a < b))) := by
  unfold Runs; simp only [execOp, hx, hy, eqGuard_at_int, binOp_lss]; rfl
theorem RX.le (hx : ρ x = .int k a) (hy : ρ y = .int k b) : Runs P ρ ⟨d, .binOp .leq t x y t', ty, pos, af, g⟩ w (.bool (decide (a ≤ b))) := by
  unfold Runs; simp only [execOp, hx, hy, eqGuard_at_int, binOp_leq]; rfl
theorem RX.gt (hx : ρ x = .int k a) (hy : ρ y = .int k b) : Runs P ρ ⟨d, .binOp .gtr t x y t', ty, pos, af, g⟩ w (.bool (decide (b < a))) := by
  unfold Runs; simp only [execOp, hx, hy, eqGuard_at_int, binOp_gtr]; rfl
theorem RX.ge (hx : ρ x = .int k a) (hy : ρ y = .int k b) : Runs P ρ ⟨d, .binOp .geq t x y t', ty, pos, af, g⟩ w (.bool (decide (b ≤ a))) := by
  unfold Runs; simp only [execOp, hx, hy, eqGuard_at_int, binOp_geq]; rfl
theorem RX.conv {src dst : TypeId} {k' : IntKind} (hx : ρ x = .int k a) (hs : (kindOf P src).isSome = true) (hd : kindOf P dst = some k') (hr : k'.wrap a = r) :
    Runs P ρ ⟨d, .convert src dst x, ty, pos, af, g⟩ w (.int k' r) := by
  subst hr
  unfold kindOf at hs hd
  have h1 : ∃ k2, P.underlying src = some (.int k2) := by
    revert hs; split
    · rename_i k2 h; exact fun _ => ⟨k2, h⟩
    · intro h; cases h
  have h2 : P.underlying dst = some (.int k') := by
    revert hd; split
    · rename_i k2 h; intro e; rw [h, Option.some.inj e]
    · intro h; cases h
  obtain ⟨k2, h1⟩ := h1
  unfold Runs
  simp [execOp, hx, convert, run_underlying h1, run_underlying h2, Conv.intToInt]
theorem RX.neg (hx : ρ x = .int k a) (hr : k.wrap (0 - a) = r) : Runs P ρ ⟨d, .unOp .neg t x, ty, pos, af, g⟩ w (.int k r) := by
  subst hr; unfold Runs; simp [execOp, hx, Op.unary, Op.intArith]
end ints

theorem fieldOff_run {s : TypeId} {i n : Nat} (h : fieldOff P s i = some n) {b o : Nat} :
    (Instr.fieldAt s (.pointer (some ⟨b, o, none⟩)) i).run P w = .ok (.pointer (some ⟨b, o + n, none⟩)) w := by
  unfold fieldOff at h
  split at h
  · rename_i fs hs
    split at h
    · rename_i f hf
      split at h
      · rename_i j hj
        split at h
        · cases h
        · rename_i hz
          have := Option.some.inj h
          subst this
          simp [Instr.fieldAt, run_underlying hs, hf, Instr.sureAddr, fieldPlace, sizeOf, typeInfo, hj, hz, Addr.add_lit]
      · cases h
    · cases h
  · cases h
theorem RX.fieldAddr {s : TypeId} {i n b o o' : Nat} (hx : ρ x = .pointer (some ⟨b, o, none⟩)) (hf : fieldOff P s i = some n) (ho : o + n = o') :
    Runs P ρ ⟨d, .fieldAddr s x i, ty, pos, af, g⟩ w (.pointer (some ⟨b, o', none⟩)) := by
  subst ho; unfold Runs; simp [execOp, hx, fieldOff_run hf]
theorem sliceOf_run {t e : TypeId} {sz : Nat} (h : sliceOf P t = some (e, sz)) : P.underlying t = some (.slice e) ∧ ∃ i, P.info? e = some i ∧ i.size = sz := by
  unfold sliceOf at h
  split at h
  · rename_i e2 hu
    cases hi : P.info? e2 with
    | none => simp [hi] at h
    | some i =>
      simp only [hi, Option.map_some, Option.some.injEq, Prod.mk.injEq] at h
      obtain ⟨rfl, rfl⟩ := h
      exact ⟨hu, i, hi, rfl⟩
  · cases h
theorem RX.indexAddr {t e : TypeId} {sz b o n cap o' : Nat} {k : IntKind} {i : Int} (hx : ρ x = .slice (some ⟨b, o, none⟩) n cap) (hi : ρ y = .int k i) (ht : sliceOf P t = some (e, sz))
    (h0 : 0 ≤ i) (h1 : i < (n : Int)) (ho : o + i.toNat * sz = o') : Runs P ρ ⟨d, .indexAddr t x y, ty, pos, af, g⟩ w (.pointer (some ⟨b, o', none⟩)) := by
  subst ho
  obtain ⟨hu, inf, hinf, hsz⟩ := sliceOf_run ht
  unfold Runs
  simp [execOp, hx, hi, Instr.indexAt, asIntOf, run_underlying hu, h0, h1, sizeOf, typeInfo, hinf, hsz, Addr.add_lit]
theorem RX.len_slice {t : TypeId} {p : Option Addr} {n cap : Nat} {r : Int} (hx : ρ x = .slice p n cap) (ht : (sliceOf P t).isSome = true) (hr : (n : Int) = r) :
    Runs P ρ ⟨d, .call { callee := .builtin .len, args := #[x], argTypes := #[t] }, ty, pos, af, g⟩ w (.int .i64 r) := by
  subst hr
  obtain ⟨⟨e, sz⟩, hs⟩ := Option.isSome_iff_exists.1 ht
  obtain ⟨hu, _⟩ := sliceOf_run hs
  unfold Runs
  simp [execOp, resolve, invoke, builtin, Builtin.len_, hx, run_underlying hu, goInt]
theorem RX.len_string {t : TypeId} {s : ByteArray} {r : Int} (hx : ρ x = .string s) (ht : P.underlying t = some .string) (hr : (s.size : Int) = r) :
    Runs P ρ ⟨d, .call { callee := .builtin .len, args := #[x], argTypes := #[t] }, ty, pos, af, g⟩ w (.int .i64 r) := by
  subst hr
  unfold Runs
  simp [execOp, resolve, invoke, builtin, Builtin.len_, hx, run_underlying ht, goInt]

/-- One cell out of a block that stands alone. -/
theorem RX.load {t T : TypeId} {b o i : Nat} {l : List Value} {v : Value} (H : Hp w0 w L) (hx : ρ x = .pointer (some ⟨b, o, none⟩)) (hi : L[i]? = some [(b, cel l T)]) (hv : l[o]? = some v)
    (ht : oneOf P t = true) : Runs P ρ ⟨d, .load t x, ty, pos, af, g⟩ w v := by
  have hc := H.cell hi o
  rw [hv] at hc
  unfold Runs
  unfold oneOf at ht
  have hu : ∃ u, P.underlying t = some u ∧ (∀ fs, u ≠ .struct fs) ∧ (∀ n e, u ≠ .array n e) := by
    revert ht
    split
    · intro h; cases h
    · intro h; cases h
    · intro h; cases h
    · rename_i h1 h2 h3
      intro _
      cases hu : P.underlying t with
      | none => exact absurd hu h3
      | some u => exact ⟨u, rfl, fun fs e => h1 fs (by rw [hu, e]), fun n e he => h2 n e (by rw [hu, he])⟩
  obtain ⟨u, hu, h1, h2⟩ := hu
  have hagg : (isAgg t).run P w = .ok false w := by
    unfold isAgg
    simp only [Sem.run_bind, run_underlying hu, Result.andThen_ok]
    cases u <;> first | rfl | exact absurd rfl (h1 _) | exact absurd rfl (h2 _ _)
  simp [execOp, hx, Instr.loadAt, Instr.sureAddr, loadVar, hagg, hc]
theorem RX.loadm {t T : TypeId} {b o i : Nat} {C : Array Value} {fz : Nat × Nat} {s : Seg} {v : Value} (H : Hp w0 w L) (hx : ρ x = .pointer (some ⟨b, o, none⟩)) (hi : L[i]? = some s) (hm : (b, Obj.cells C T fz) ∈ s) (hv : C[o]? = some v)
    (ht : oneOf P t = true) : Runs P ρ ⟨d, .load t x, ty, pos, af, g⟩ w v := by
  have hc := H.cellm hi hm o
  rw [hv] at hc
  unfold Runs
  unfold oneOf at ht
  have hu : ∃ u, P.underlying t = some u ∧ (∀ fs, u ≠ .struct fs) ∧ (∀ n e, u ≠ .array n e) := by
    revert ht
    split
    · intro h; cases h
    · intro h; cases h
    · intro h; cases h
    · rename_i h1 h2 h3
      intro _
      cases hu : P.underlying t with
      | none => exact absurd hu h3
      | some u => exact ⟨u, rfl, fun fs e => h1 fs (by rw [hu, e]), fun n e he => h2 n e (by rw [hu, he])⟩
  obtain ⟨u, hu, h1, h2⟩ := hu
  have hagg : (isAgg t).run P w = .ok false w := by
    unfold isAgg
    simp only [Sem.run_bind, run_underlying hu, Result.andThen_ok]
    cases u <;> first | rfl | exact absurd rfl (h1 _) | exact absurd rfl (h2 _ _)
  simp [execOp, hx, Instr.loadAt, Instr.sureAddr, loadVar, hagg, hc]

theorem szOf_run {t : TypeId} {n : Nat} (h : szOf P t = some n) : (sizeOf t).run P w = .ok n w := by
  unfold szOf at h
  cases hi : P.info? t with
  | none => simp [hi] at h
  | some i =>
    simp [hi] at h
    simp [sizeOf, typeInfo, hi, h]
theorem EX.store {t T : TypeId} {b o i : Nat} {l l' : List Value} {v : Value} {L' : List Seg} (H : Hp w0 w L) (hx : ρ x = .pointer (some ⟨b, o, none⟩)) (hy : ρ y = v) (hi : L[i]? = some [(b, cel l T)])
    (hv : isCell v = true) (ho : o < l.length) (ht : szOf P t = some 1) (hl : l.set o v = l') (hL : L.set i [(b, cel l' T)] = L') :
    Does P ρ ⟨d, .store t x y, ty, pos, af, g⟩ w fun _ w' => Hp w0 w' L' := by
  subst hl hL
  have hc := H.cell hi o
  rw [List.getElem?_eq_getElem ho] at hc
  have hfz := H.frozen hi o
  have hcells : v.cells = #[v] := by cases v <;> first | rfl | cases hv
  refine Does.of_skip (w' := w.setCell ⟨b, o, none⟩ v) ?_ (H.setCell hi o v)
  have hst : (Go.store ⟨b, o, none⟩ v).run P w = .ok () (w.setCell ⟨b, o, none⟩ v) := by
    rw [run_store P w ⟨b, o, none⟩ v .plain (by cases v <;> first | rfl | cases hv)]
    rw [hc, hfz]; rfl
  simp [execOp, hx, hy, Instr.storeAt, Instr.sureAddr, storeVar, szOf_run ht, hcells, storeCells, Addr.add_zero', hst]

theorem EX.box {t : TypeId} {v : Value} {l : List Value} (H : Hp w0 w L) (hx : ρ x = v) (hl : v.cells = l.toArray) :
    Does P ρ ⟨d, .box t x, ty, pos, af, g⟩ w fun u w' => ∃ b, u = .pointer (some ⟨b, 0, none⟩) ∧ Hp w0 w' ([(b, cel l t)] :: L) := by
  refine Does.of_run (v := .pointer (some ⟨w.heap.size, 0, none⟩)) (w' := w.alloc (cel l t)) ?_ ⟨_, rfl, H.alloc _⟩
  simp only [execOp, hx, Instr.box, newVar, newRow, hl]
  rfl
theorem EX.alloc {t : TypeId} {v : Value} {l : List Value} (H : Hp w0 w L) (hz : (P.info? t).bind (·.zero) = some v) (hl : v.cells = l.toArray) :
    Does P ρ ⟨d, .alloc t, ty, pos, af, g⟩ w fun u w' => ∃ b, u = .pointer (some ⟨b, 0, none⟩) ∧ Hp w0 w' ([(b, cel l t)] :: L) := by
  cases hi : P.info? t with
  | none => simp [hi] at hz
  | some i =>
    simp only [hi, Option.bind_some] at hz
    refine Does.of_run (v := .pointer (some ⟨w.heap.size, 0, none⟩)) (w' := w.alloc (cel l t)) ?_ ⟨_, rfl, H.alloc _⟩
    simp only [execOp, Instr.alloc, zeroValue, typeInfo, Sem.run_bind, newVar, newRow]
    have h1 : (program : Sem Program).run P w = .ok P w := rfl
    simp only [h1, Result.andThen_ok, hi, hz, hl, Sem.run_pure]
    rfl
/-- A call of a function of the text. -/
def callable (P : Program) (f : FuncId) : Bool :=
  match P.funcs[f]? with
  | some fn => !(fn.name == "runtime.NumGoroutine") && fn.body.isSome
  | none => false
theorem callFunc_run {f : FuncId} {args : Array Value} (h : callable P f = true) : (callFunc f args).run P w = .ok (.enter f args) w := by
  unfold callable at h
  split at h
  · rename_i fn hf
    simp only [Bool.and_eq_true, Bool.not_eq_true', beq_eq_false_iff_ne, ne_eq] at h
    unfold callFunc
    have h1 : (program : Sem Program).run P w = .ok P w := rfl
    have hb : ¬ fn.body = none := by intro e; rw [e] at h; exact absurd h.2 (by decide)
    simp [h1, hf, h.1, hb]
  · cases h
theorem run_enter {f : FuncId} {as : List Operand} {ats : Array TypeId} {l : List Value} (ha : as.map ρ = l) :
    (execOp ρ ⟨d, .call { callee := .value (.func f), args := as.toArray, argTypes := ats }, ty, pos, af, g⟩).run P w =
      ((Deferred.ofValue (ρ (.func f)) l.toArray).run P w).andThen fun t w' => (invoke t.target t.args).run P w' := by
  simp only [execOp, resolve, Sem.run_bind, List.map_toArray, ha]
theorem EX.call {f : FuncId} {as : List Operand} {ats : Array TypeId} {l : List Value} {Φ : Value → World → Prop} (hρ : ρ (.func f) = .func (.func f) #[] #[]) (hf : callable P f = true) (ha : as.map ρ = l) (hc : Ret P f l w Φ) :
    Does P ρ ⟨d, .call { callee := .value (.func f), args := as.toArray, argTypes := ats }, ty, pos, af, g⟩ w Φ := by
  refine Does.of_enter (w' := w) ?_ hc
  rw [run_enter ha, hρ]
  simp [Deferred.ofValue, invoke, callFunc_run hf]
/-- A call of a function value. -/
theorem EX.callv {f : FuncId} {c : Operand} {as : List Operand} {ats : Array TypeId} {l fv cv args : List Value} {Φ : Value → World → Prop} (hv : ρ c = .func (.func f) fv.toArray cv.toArray) (hf : callable P f = true) (ha : as.map ρ = l)
    (hl : fv ++ l ++ cv = args) (hc : Ret P f args w Φ) :
    Does P ρ ⟨d, .call { callee := .value c, args := as.toArray, argTypes := ats }, ty, pos, af, g⟩ w Φ := by
  subst hl
  refine Does.of_enter (w' := w) ?_ hc
  simp only [execOp, resolve, Sem.run_bind, List.map_toArray, ha, hv, Deferred.ofValue, Sem.run_pure, Result.andThen_ok, invoke, List.append_toArray, callFunc_run hf]
theorem run_callq {f : FuncId} {as : List Operand} {ats : Array TypeId} {l : List Value} (hρ : ρ (.func f) = .func (.func f) #[] #[]) (hf : callable P f = true) (ha : as.map ρ = l) :
    (execOp ρ ⟨d, .call { callee := .value (.func f), args := as.toArray, argTypes := ats }, ty, pos, af, g⟩).run P w = .ok (.enter f l.toArray) w := by
  rw [run_enter ha, hρ]
  simp [Deferred.ofValue, invoke, callFunc_run hf]
end
end Go.Eng
