/- General rules for stepping through a function: no program stands in them. -/
import Derived.Test.YtfpphoapknecfaaGreatDoorBesafterEng4
namespace Go.Eng
open Go
variable {D : List Deferred}

theorem w_i64 {a r : Int} (h : a = r) (h0 : -9223372036854775808 ≤ r) (h1 : r ≤ 9223372036854775807) : IntKind.i64.wrap a = r := by
  subst h; exact IntWalk.i64_in _ ⟨h0, h1⟩
theorem w_u64 {a r : Int} (h : a = r) (h0 : 0 ≤ r) (h1 : r ≤ 18446744073709551615) : IntKind.u64.wrap a = r := by
  subst h; simp only [IntKind.wrap, IntKind.bits, IntKind.signed]; simp; omega
theorem w_u8 {a r : Int} (h : a = r) (h0 : 0 ≤ r) (h1 : r ≤ 255) : IntKind.u8.wrap a = r := by
  subst h; simp only [IntKind.wrap, IntKind.bits, IntKind.signed]; simp; omega
theorem w_u32 {a r : Int} (h : a = r) (h0 : 0 ≤ r) (h1 : r ≤ 4294967295) : IntKind.u32.wrap a = r := by
  subst h; simp only [IntKind.wrap, IntKind.bits, IntKind.signed]; simp; omega

section
variable {P : Program} {f : Fr} {n : Nat} {R : Ending → World → Prop} {k : List Item} {σ : Env} {w w0 : World} {L : List Seg}
theorem J.quietH {id : Nat} {l : List Oper} (H : Hp w0 w L) (hm : P.follows .mixedOrders = true) (hB : Region.lexB .any l.toArray = true)
    (h : JQ D P f n R l.toArray (fun w' => Hp w0 w' L) l k σ) (hp : f.plain l = true := by exact rfl) : J D P f n R (.code (.region id l.toArray true) :: k) σ w :=
  J.quiet (fun w' => Hp w0 w' L) hm hB (fun _ hs => H.same hs) h hp
theorem JL.splitS {ops : Array Oper} {l : List Oper} {b : Bool} (t : Tmp) (_hb : ev n σ (.tmp t) = .bool b) (ht : b = true → JL D P f n R ops l k σ w) (hf : b = false → JL D P f n R ops l k σ w) :
    JL D P f n R ops l k σ w := JL.split b ht hf
theorem JQ.splitS {C : World → Prop} {ops : Array Oper} {l : List Oper} {b : Bool} (t : Tmp) (_hb : ev n σ (.tmp t) = .bool b) (ht : b = true → JQ D P f n R ops C l k σ) (hf : b = false → JQ D P f n R ops C l k σ) :
    JQ D P f n R ops C l k σ := JQ.split b ht hf
theorem JA.splitS {ops : Array Oper} {fuel : Nat} {listed : Array Bool} {b : Bool} (t : Tmp) (_hb : ev n σ (.tmp t) = .bool b) (ht : b = true → JA D P f n R ops fuel listed k σ w)
    (hf : b = false → JA D P f n R ops fuel listed k σ w) : JA D P f n R ops fuel listed k σ w := JA.split b ht hf
end

/-- The cells xs can be read from the pointer p on, in the memory L. -/
def SlAt (L : List Seg) (p : Option Addr) (xs : List Value) : Prop :=
  xs = [] ∨ ∃ b off C T fz, p = some ⟨b, off, none⟩ ∧ (b, Obj.cells C T fz) ∈ L.flatten ∧ ∀ j, j < xs.length → C[off + j]? = xs[j]?
theorem SlAt.cons {L : List Seg} {s : Seg} {p : Option Addr} {xs : List Value} (h : SlAt L p xs) : SlAt (s :: L) p xs := by
  rcases h with h | ⟨b, off, C, T, fz, hp, hm, hc⟩
  · exact .inl h
  · exact .inr ⟨b, off, C, T, fz, hp, by simp only [List.flatten_cons, List.mem_append]; exact .inr hm, hc⟩
theorem SlAt.nil {L : List Seg} {p : Option Addr} : SlAt L p [] := .inl rfl
theorem SlAt.some {L : List Seg} {p : Option Addr} {xs : List Value} (h : SlAt L p xs) (hx : 0 < xs.length) :
    ∃ b off, p = some ⟨b, off, none⟩ ∧ ∃ C T fz, (b, Obj.cells C T fz) ∈ L.flatten ∧ ∀ j, j < xs.length → C[off + j]? = xs[j]? := by
  rcases h with rfl | ⟨b, off, C, T, fz, hp, hm, hc⟩
  · simp at hx
  · exact ⟨b, off, hp, C, T, fz, hm, hc⟩
theorem SlAt.here {L : List Seg} {b : Nat} {l xs : List Value} {T : TypeId} (h : l.take xs.length = xs) : SlAt ([(b, cel l T)] :: L) (.some ⟨b, 0, none⟩) xs := by
  refine .inr ⟨b, 0, l.toArray, T, (0, 0), rfl, by simp [cel], fun j hj => ?_⟩
  rw [← h, List.getElem?_take]
  simp [hj]
theorem SlAt.part {L : List Seg} {b off : Nat} {xs ys zs : List Value} (h : SlAt L (.some ⟨b, off, none⟩) (xs ++ ys ++ zs)) : SlAt L (.some ⟨b, off + xs.length, none⟩) ys := by
  rcases h with h | ⟨b', off', C, T, fz, hp, hm, hc⟩
  · have : ys = [] := by simp at h; exact h.2.1
    subst this; exact .inl rfl
  · cases hp
    refine .inr ⟨_, _, C, T, fz, rfl, hm, fun j hj => ?_⟩
    have := hc (xs.length + j) (by simp; omega)
    rw [Nat.add_assoc, this, List.append_assoc, List.getElem?_append_right (by omega), List.getElem?_append_left (by omega)]
    congr 1; omega
theorem SlAt.perm {L L' : List Seg} {p : Option Addr} {xs : List Value} (h : SlAt L p xs) (hs : ∀ e, e ∈ L.flatten → e ∈ L'.flatten) : SlAt L' p xs := by
  rcases h with h | ⟨b, off, C, T, fz, hp, hm, hc⟩
  · exact .inl h
  · exact .inr ⟨b, off, C, T, fz, hp, hs _ hm, hc⟩

/-- A slice of the call's own: it begins at the head of its block, or is nil. -/
def OwnSl (e : TypeId) (size : Nat) (p : Option Addr) (n cap : Nat) (xs : List Value) (s : Seg) : Prop :=
  xs.length = n * size ∧ ((p = none ∧ n = 0 ∧ cap = 0 ∧ s = []) ∨ ∃ g l, p = some ⟨g, 0, none⟩ ∧ s = [(g, cel l e)] ∧ n ≤ cap ∧ l.length = cap * size ∧ l.take xs.length = xs)
theorem OwnSl.nil {e : TypeId} {size : Nat} : OwnSl e size none 0 0 [] [] := ⟨by simp, .inl ⟨rfl, rfl, rfl, rfl⟩⟩
theorem OwnSl.slAt {e : TypeId} {size : Nat} {p : Option Addr} {n cap : Nat} {xs : List Value} {s : Seg} {L : List Seg} (h : OwnSl e size p n cap xs s) : SlAt (s :: L) p xs := by
  obtain ⟨hl, ⟨rfl, rfl, rfl, rfl⟩ | ⟨g, l, rfl, rfl, hn, hc, ht⟩⟩ := h
  · exact .inl (List.eq_nil_of_length_eq_zero (by simpa using hl))
  · exact SlAt.here ht
theorem OwnSl.le {e : TypeId} {size : Nat} {p : Option Addr} {n cap : Nat} {xs : List Value} {s : Seg} (h : OwnSl e size p n cap xs s) : n ≤ cap := by
  obtain ⟨_, ⟨rfl, rfl, rfl, rfl⟩ | ⟨g, l, rfl, rfl, hn, hc, ht⟩⟩ := h
  · exact Nat.le_refl _
  · exact hn

/-- The element type's row: its cells, bytes, zero value. -/
structure Elem (P : Program) (t e : TypeId) (size bytes : Nat) : Prop where
  under : P.underlying t = some (.slice e)
  info : ∃ i z, P.info? e = some i ∧ i.zero = some z ∧ i.size = size ∧ i.bytes = bytes ∧ z.cells.size = size
def elemB (P : Program) (t e size bytes : Nat) : Bool :=
  (match P.underlying t with | some (.slice e') => e' == e | _ => false) &&
  (match P.info? e with | some i => (match i.zero with | some z => i.size == size && i.bytes == bytes && z.cells.size == size | none => false) | none => false)
theorem Elem.of {P : Program} {t e size bytes : Nat} (h : elemB P t e size bytes = true) : Elem P t e size bytes := by
  unfold elemB at h
  simp only [Bool.and_eq_true] at h
  obtain ⟨h1, h2⟩ := h
  constructor
  · revert h1; split
    · rename_i e' hu; intro he; rw [hu, beq_iff_eq.1 he]
    · intro h; cases h
  · revert h2; split
    · rename_i i hi
      split
      · rename_i z hz
        intro h
        simp only [Bool.and_eq_true, beq_iff_eq] at h
        exact ⟨i, z, hi, hz, h.1.1, h.1.2, h.2⟩
      · intro h; cases h
    · intro h; cases h

section
variable {P : Program} {ρ : Operand → Value} {w w0 : World} {L : List Seg} {d : Option Tmp} {ty : TypeId} {pos : String} {af : Array Edge} {g : Option (Nat × Bool)} {x y : Operand}

theorem Hp.slcell {p : Option Addr} {xs : List Value} (H : Hp w0 w L) (hs : SlAt L p xs) {j : Nat} {v : Value} (hj : xs[j]? = some v) : ∃ b off, p = some ⟨b, off, none⟩ ∧ w.cell? ⟨b, off + j, none⟩ = some v := by
  rcases hs with rfl | ⟨b, off, C, T, fz, hp, hm, hc⟩
  · simp at hj
  · refine ⟨b, off, hp, ?_⟩
    obtain ⟨hlt, _⟩ := List.getElem?_eq_some_iff.1 hj
    have hb := H.mem _ hm
    simp only at hb
    simp [World.cell?, hb, hc j hlt, hj]

theorem isAgg_one {t : TypeId} (ht : oneOf P t = true) : (isAgg t).run P w = .ok false w := by
  unfold oneOf at ht
  have hu : ∃ u, P.underlying t = some u ∧ (∀ fs, u ≠ .struct fs) ∧ (∀ n e, u ≠ .array n e) := by
    revert ht
    split
    · intro h; cases h
    · intro h; cases h
    · intro h; cases h
    · rename_i h1 h2 h3
      intro _
      cases hu : P.underlying t with
      | none => exact absurd hu h3
      | some u => exact ⟨u, rfl, fun fs e => h1 fs (by rw [hu, e]), fun n e he => h2 n e (by rw [hu, he])⟩
  obtain ⟨u, hu, h1, h2⟩ := hu
  unfold isAgg
  simp only [Sem.run_bind, run_underlying hu, Result.andThen_ok]
  cases u <;> first | rfl | exact absurd rfl (h1 _) | exact absurd rfl (h2 _ _)
/-- One cell of a slice that can be read. -/
theorem RX.loadS {t : TypeId} {b off o j : Nat} {xs : List Value} {v : Value} (H : Hp w0 w L) (hs : SlAt L (.some ⟨b, off, none⟩) xs) (hx : ρ x = .pointer (some ⟨b, o, none⟩)) (ho : o = off + j) (hj : xs[j]? = some v)
    (ht : oneOf P t = true) : Runs P ρ ⟨d, .load t x, ty, pos, af, g⟩ w v := by
  subst ho
  obtain ⟨b', off', hp, hc⟩ := H.slcell hs hj
  cases hp
  unfold Runs
  simp [execOp, hx, Instr.loadAt, Instr.sureAddr, loadVar, isAgg_one ht, hc]

theorem aggOf_run {t : TypeId} {sz : Nat} (ht : aggOf P t = some sz) : (isAgg t).run P w = .ok true w ∧ (sizeOf t).run P w = .ok sz w := by
  unfold aggOf at ht
  have h2 : (P.info? t).map (·.size) = some sz := by
    revert ht; split
    · exact id
    · exact id
    · intro h; cases h
  refine ⟨?_, szOf_run h2⟩
  revert ht
  split
  · rename_i fs hu; intro _; unfold isAgg; simp only [Sem.run_bind, run_underlying hu, Result.andThen_ok]; rfl
  · rename_i n e hu; intro _; unfold isAgg; simp only [Sem.run_bind, run_underlying hu, Result.andThen_ok]; rfl
  · intro h; cases h
theorem run_loadCellsFrom {b o : Nat} : ∀ (vs : List Value) (i : Nat) (acc : Array Value), (∀ j v, vs[j]? = some v → w.cell? ⟨b, o + (i + j), none⟩ = some v) →
    (loadCellsFrom ⟨b, o, none⟩ i vs.length acc).run P w = .ok (acc ++ vs.toArray) w := by
  intro vs
  induction vs with
  | nil => intro i acc _; simp [loadCellsFrom]
  | cons v vs ih =>
    intro i acc h
    have h0 := h 0 v rfl
    simp only [Nat.add_zero] at h0
    simp only [List.length_cons, loadCellsFrom, Sem.run_bind, run_load, Addr.add_lit, h0, Result.andThen_ok]
    rw [ih (i + 1) (acc.push v) (fun j u hj => by have := h (j + 1) u (by simpa using hj); rw [← this]; congr 2; omega)]
    simp
/-- A struct or an array out of a block that stands alone. -/
theorem RX.loadAgg {t T : TypeId} {b o i sz : Nat} {l vs : List Value} (H : Hp w0 w L) (hx : ρ x = .pointer (some ⟨b, o, none⟩)) (hi : L[i]? = some [(b, cel l T)]) (hv : readN l o sz = some vs)
    (ht : aggOf P t = some sz) : Runs P ρ ⟨d, .load t x, ty, pos, af, g⟩ w (.agg vs.toArray) := by
  obtain ⟨h1, h2⟩ := aggOf_run (P := P) (w := w) ht
  unfold readN at hv
  simp only at hv
  split at hv
  · rename_i hlen
    have := Option.some.inj hv
    subst this
    have hc := run_loadCellsFrom (P := P) (w := w) (b := b) (o := o) ((l.drop o).take sz) 0 #[] (fun j v hj => by
      rw [H.cell hi]
      rw [List.getElem?_take] at hj
      split at hj
      · rw [List.getElem?_drop] at hj
        simpa using hj
      · cases hj)
    rw [hlen] at hc
    unfold Runs
    simp [execOp, hx, Instr.loadAt, Instr.sureAddr, loadVar, h1, h2, loadCells, hc]
  · cases hv
theorem RX.loadAggS {t : TypeId} {b off o j sz : Nat} {xs vs : List Value} (H : Hp w0 w L) (hs : SlAt L (.some ⟨b, off, none⟩) xs) (hx : ρ x = .pointer (some ⟨b, o, none⟩)) (ho : o = off + j) (hv : readN xs j sz = some vs)
    (ht : aggOf P t = some sz) : Runs P ρ ⟨d, .load t x, ty, pos, af, g⟩ w (.agg vs.toArray) := by
  subst ho
  obtain ⟨h1, h2⟩ := aggOf_run (P := P) (w := w) ht
  unfold readN at hv
  simp only at hv
  split at hv
  · rename_i hlen
    have := Option.some.inj hv
    subst this
    have hc := run_loadCellsFrom (P := P) (w := w) (b := b) (o := off + j) ((xs.drop j).take sz) 0 #[] (fun q v hq => by
      rw [List.getElem?_take] at hq
      split at hq
      · rw [List.getElem?_drop] at hq
        obtain ⟨b', off', hp, hc⟩ := H.slcell hs hq
        cases hp
        rw [← hc]; congr 2; omega
      · cases hq)
    rw [hlen] at hc
    unfold Runs
    simp [execOp, hx, Instr.loadAt, Instr.sureAddr, loadVar, h1, h2, loadCells, hc]
  · cases hv

/-- A slice literal of elements of one cell. -/
theorem EX.buildSlice1 {t e bytes : Nat} {v : Value} (H : Hp w0 w L) (he : Elem P t e 1 bytes) (hx : ρ x = v) (hv : isCell v = true) :
    Does P ρ ⟨d, .buildSlice t 1 #[(0, x)], ty, pos, af, g⟩ w fun u w' => ∃ b, u = .slice (some ⟨b, 0, none⟩) 1 1 ∧ Hp w0 w' ([(b, cel [v] e)] :: L) := by
  obtain ⟨hu, i, z, hi, hz, hs, hb, hzs⟩ := he
  have hcells : v.cells = #[v] := by cases v <;> first | rfl | cases hv
  refine Does.of_run (v := .slice (some ⟨w.heap.size, 0, none⟩) 1 1) (w' := w.alloc (cel [v] e)) ?_ ⟨_, rfl, H.alloc _⟩
  simp only [execOp, Instr.buildSlice, Sem.run_bind, run_underlying hu, Result.andThen_ok]
  have hsz : (sizeOf e).run P w = .ok 1 w := szOf_run (by unfold szOf; rw [hi]; simp [hs])
  have hzv : (zeroValue e).run P w = .ok z w := by
    have h1 : (program : Sem Program).run P w = .ok P w := rfl
    simp [zeroValue, typeInfo, h1, hi, hz]
  have hr1 : Array.range 1 = #[0] := rfl
  simp only [hsz, Result.andThen_ok, Nat.mul_one]
  simp [hzv, hx, Instr.fill, hcells, newRow, hr1, cel]
theorem EX.buildSlice0 {t e size bytes : Nat} (H : Hp w0 w L) (he : Elem P t e size bytes) :
    Does P ρ ⟨d, .buildSlice t 0 #[], ty, pos, af, g⟩ w fun u w' => ∃ b, u = .slice (some ⟨b, 0, none⟩) 0 0 ∧ Hp w0 w' ([(b, cel [] e)] :: L) := by
  obtain ⟨hu, i, z, hi, hz, hs, hb, hzs⟩ := he
  refine Does.of_run (v := .slice (some ⟨w.heap.size, 0, none⟩) 0 0) (w' := w.alloc (cel [] e)) ?_ ⟨_, rfl, H.alloc _⟩
  simp only [execOp, Instr.buildSlice, Sem.run_bind, run_underlying hu, Result.andThen_ok]
  have hsz : (sizeOf e).run P w = .ok size w := szOf_run (by unfold szOf; rw [hi]; simp [hs])
  simp only [hsz, Result.andThen_ok, Nat.zero_mul]
  have hr0 : Array.range 0 = #[] := rfl
  simp [Instr.fill, newRow, cel, hr0]
theorem OwnSl.empty {e size g : Nat} : OwnSl e size (some ⟨g, 0, none⟩) 0 0 [] [(g, cel [] e)] := ⟨by simp, .inr ⟨g, [], rfl, rfl, Nat.le_refl _, by simp, by simp⟩⟩
theorem OwnSl.one {e g : Nat} {v : Value} : OwnSl e 1 (some ⟨g, 0, none⟩) 1 1 [v] [(g, cel [v] e)] := ⟨by simp, .inr ⟨g, [v], rfl, rfl, Nat.le_refl _, by simp, by simp⟩⟩

theorem len_zeroCells (z : Array Value) (n : Nat) : (Builtin.zeroCells z n).size = n * z.size := by simp [Builtin.zeroCells]
/-- append to a slice of the call's own, out of whatever can be read. -/
theorem EX.append {t e size bytes i n cap m c : Nat} {q : Option Addr} {pa : Option Addr} {xs ys : List Value} {s : Seg} {L' : Seg → List Seg} (H : Hp w0 w L) (he : Elem P t e size bytes)
    (hx : ρ x = .slice pa n cap) (hy : ρ y = .slice q m c) (hi : L[i]? = some s) (ho : OwnSl e size pa n cap xs s) (hs : SlAt L q ys) (hl : ys.length = m * size) (h1 : ∀ v ∈ ys, isCell v = true)
    (hsz : 0 < size) (hb : (n + m) * bytes ≤ 140737488355328) (hnm : n + m ≤ 4611686018427387904) (hL : ∀ s', L.set i s' = L' s') :
    Does P ρ ⟨d, .call { callee := .builtin .append, args := #[x, y], argTypes := #[t, t] }, ty, pos, af, g⟩ w fun u w' =>
      ∃ pa' cap' s', u = .slice pa' (n + m) cap' ∧ OwnSl e size pa' (n + m) cap' (xs ++ ys) s' ∧ Hp w0 w' (L' s') := by
  obtain ⟨hu, inf, z, hinf, hz, hsize, hbytes, hzs⟩ := he
  subst hsize hbytes
  have hexec : ∀ u w', (Builtin.append_ #[t, t] ty #[.slice pa n cap, .slice q m c]).run P w = .ok u w' →
      (execOp ρ ⟨d, .call { callee := .builtin .append, args := #[x, y], argTypes := #[t, t] }, ty, pos, af, g⟩).run P w = .ok (.value u) w' := by
    intro u w' h
    simp only [execOp, resolve, invoke, builtin, Sem.run_bind, Sem.run_pure, Result.andThen_ok, List.map_toArray, List.map_cons, List.map_nil, hx, hy, h]
  have hset : ∀ s', L.set i s' = L' s' := hL
  -- the segment dropped, another laid in its place
  have hreplace : ∀ (w' : World) (b : Nat) (o : Obj), Hp w0 w' ([(b, o)] :: L) → Hp w0 w' (L' [(b, o)]) := by
    intro w' b o h
    rw [← hset]
    have h2 := h.pull (i + 1) (s := s) (by simpa using hi)
    simp only [List.eraseIdx_cons_succ] at h2
    have h3 := h2.drop
    refine perm_of_flatten h3 ?_
    have h4 : (L.set i [(b, o)])[i]? = some [(b, o)] := by
      rw [List.getElem?_set_self]; exact (List.getElem?_eq_some_iff.1 hi).1
    have h5 := get_perm h4
    rw [List.eraseIdx_set_eq] at h5
    exact h5.symm
  have hnil : m = 0 → Does P ρ ⟨d, .call { callee := .builtin .append, args := #[x, y], argTypes := #[t, t] }, ty, pos, af, g⟩ w fun u w' =>
      ∃ pa' cap' s', u = .slice pa' (n + m) cap' ∧ OwnSl e inf.size pa' (n + m) cap' (xs ++ ys) s' ∧ Hp w0 w' (L' s') := by
    intro hm
    subst hm
    have hys : ys = [] := List.eq_nil_of_length_eq_zero (by simpa using hl)
    subst hys
    refine Does.of_run (v := .slice pa n cap) (w' := w) (hexec _ _ ?_) ⟨pa, cap, s, rfl, by simpa using ho, ?_⟩
    · have hle := ho.le
      cases q <;> cases pa <;> simp [Builtin.append_, run_underlying hu, sizeOf, typeInfo, hinf, Builtin.lenOf, hle, Builtin.firstCells, loadCells, loadCellsFrom, storeCells]
    · rw [← hset]
      have : L.set i s = L := by
        apply List.ext_getElem? ; intro j
        rw [List.getElem?_set]
        split
        · rename_i hij; subst hij; split
          · exact hi.symm
          · rename_i h; exact absurd (List.getElem?_eq_some_iff.1 hi).1 h
        · rfl
      rw [this]; exact H
  by_cases hm : m = 0
  · exact hnil hm
  have hypos : 0 < ys.length := by rw [hl]; exact Nat.mul_pos (by omega) hsz
  have hsrc : ∃ b off, q = some ⟨b, off, none⟩ ∧ ∀ j v, ys[j]? = some v → w.cell? ((⟨b, off, none⟩ : Addr).add j) = some v := by
    obtain ⟨b, off, hq, C, T, fz, hmem, hc⟩ := hs.some hypos
    refine ⟨b, off, hq, fun j v hj => ?_⟩
    obtain ⟨b', off', hp, hc'⟩ := H.slcell hs hj
    rw [hq] at hp
    cases hp
    rw [Addr.add_lit]; exact hc'
  obtain ⟨b, off, rfl, hnews⟩ := hsrc
  have h1' : ∀ u ∈ ys, u.oneCell' = true := fun u hu => by have := h1 u hu; cases u <;> first | rfl | cases this
  have h63 : ((n + m : Nat) : Int) ≤ 9223372036854775807 := by omega
  have hdrew : ∀ o, Hp w0 (w.drew.alloc o) ([(w.heap.size, o)] :: L) := fun o => (H.same (w' := w.drew) ⟨rfl, rfl, rfl, rfl⟩).alloc o
  have hcapge : ∀ old, n + m ≤ grownCap w (n + m) old e := fun old => grownCap_ge w (n + m) old e
  have hzc : ∀ old, (Builtin.zeroCells z.cells (grownCap w (n + m) old e - (n + m))).size = (grownCap w (n + m) old e - (n + m)) * inf.size := fun old => by rw [len_zeroCells, hzs]
  obtain ⟨hlen, ⟨rfl, rfl, rfl, rfl⟩ | ⟨gb, l, rfl, rfl, hnc, hlc, htk⟩⟩ := ho
  · have hxs : xs = [] := List.eq_nil_of_length_eq_zero (by simpa using hlen)
    subst hxs
    have hb0 : m * inf.bytes ≤ 140737488355328 := by simpa using hb
    have hr := run_append_nil (P := P) w t ty e inf z hu hinf hz ⟨b, off, none⟩ m c ys hl hnews (by omega) (by omega) (by omega)
    simp only [Nat.zero_add, List.nil_append] at *
    refine Does.of_run (hexec _ _ hr) ⟨_, _, [(w.heap.size, cel (ys ++ (Builtin.zeroCells z.cells (grownCap w m 0 e - m)).toList) e)], rfl, ⟨hl, .inr ⟨_, _, rfl, rfl, hcapge 0, ?_, ?_⟩⟩, ?_⟩
    · simp only [List.length_append, Array.length_toList, hzc, hl, ← Nat.add_mul]; have := hcapge 0; congr 1; omega
    · exact List.take_left
    · have h5 := hreplace _ _ _ (hdrew (.cells (ys.toArray ++ Builtin.zeroCells z.cells (grownCap w m 0 e - m)) e))
      have h6 : cel (ys ++ (Builtin.zeroCells z.cells (grownCap w m 0 e - m)).toList) e = .cells (ys.toArray ++ Builtin.zeroCells z.cells (grownCap w m 0 e - m)) e := by
        unfold cel; congr 1; apply Array.ext'; simp
      rw [h6]; exact h5
  · have hcur := H.get1 hi
    by_cases hroom : n + m ≤ cap
    · have hfit : n * inf.size + ys.length ≤ l.toArray.size := by rw [hl, List.size_toArray, hlc, ← Nat.add_mul]; exact Nat.mul_le_mul_right _ hroom
      have hr := run_append_room (P := P) w t ty e inf hu hinf gb n cap l.toArray hcur ⟨b, off, none⟩ m c ys hl hnews h1' hroom hfit
      refine Does.of_run (hexec _ _ hr) ⟨_, cap, [(gb, cel (l.take (n * inf.size) ++ ys ++ l.drop (n * inf.size + ys.length)) e)], rfl, ⟨by rw [List.length_append, hlen, hl, Nat.add_mul], .inr ⟨gb, _, rfl, rfl, hroom, ?_, ?_⟩⟩, ?_⟩
      · simp only [List.size_toArray] at hfit
        simp only [List.length_append, List.length_take, List.length_drop]
        omega
      · rw [← hlen, htk]; exact List.take_left
      · rw [← hset]
        exact H.set hi (heap' := (w.setRow gb _).heap) (by simp [World.setRow]) (setRow_heap w gb _ _ e _ hcur) (fun c hc => setRow_other w gb c _ hc)
    · have holds : ∀ j v, xs[j]? = some v → w.cell? ((⟨gb, 0, none⟩ : Addr).add j) = some v := by
        intro j v hj
        have := H.cell hi (0 + j)
        rw [Addr.add_lit, this]
        obtain ⟨hlt, _⟩ := List.getElem?_eq_some_iff.1 hj
        rw [← htk, List.getElem?_take, if_pos hlt] at hj
        simpa using hj
      have hr := run_append_grow (P := P) w t ty e inf z hu hinf hz ⟨gb, 0, none⟩ n cap xs hlen holds ⟨b, off, none⟩ m c ys hl hnews (by omega) h63 (growslice_fits (by omega) hb)
      refine Does.of_run (hexec _ _ hr) ⟨_, _, [(w.heap.size, cel (xs ++ ys ++ (Builtin.zeroCells z.cells (grownCap w (n + m) cap e - (n + m))).toList) e)], rfl,
        ⟨by rw [List.length_append, hlen, hl, Nat.add_mul], .inr ⟨_, _, rfl, rfl, hcapge cap, ?_, ?_⟩⟩, ?_⟩
      · simp only [List.length_append, Array.length_toList, hzc, hlen, hl, ← Nat.add_mul]; have := hcapge cap; congr 1; omega
      · exact List.take_left
      · have h5 := hreplace _ _ _ (hdrew (.cells (xs.toArray ++ ys.toArray ++ Builtin.zeroCells z.cells (grownCap w (n + m) cap e - (n + m))) e))
        have h6 : cel (xs ++ ys ++ (Builtin.zeroCells z.cells (grownCap w (n + m) cap e - (n + m))).toList) e = .cells (xs.toArray ++ ys.toArray ++ Builtin.zeroCells z.cells (grownCap w (n + m) cap e - (n + m))) e := by
          unfold cel; congr 1; apply Array.ext'; simp
        rw [h6]; exact h5
end
end Go.Eng
