/- Part 2 of the proof that WholeSmall holds: what the functions on its way do, step by step. -/
import Derived.Test.YtfaokllgaambjaaGreatDoorZ1
import Derived.Laws.Strings
import Derived.Laws.StructEq
import Derived.Laws.Slices
import Derived.Laws.IdiomStrings
import Derived.LaidEql
import Derived.ProofKit
import Derived.OpenShut
import Derived.Carry
import Derived.ShutString
import Derived.Deep.DeepHandedRow
import Derived.Deep.DeepWitnessRowRef
import Derived.Stop.LaidErr
import Derived.Laws.Externs
import Derived.Deep.AppendSrc
set_option linter.unusedVariables false
set_option linter.unusedSimpArgs false
namespace Go.Eng
open Go
variable {D : List Deferred}
theorem w_i64 {a r : Int} (h : a = r) (h0 : -9223372036854775808 ≤ r) (h1 : r ≤ 9223372036854775807) : IntKind.i64.wrap a = r := by
  subst h; exact IntWalk.i64_in _ ⟨h0, h1⟩
theorem w_u64 {a r : Int} (h : a = r) (h0 : 0 ≤ r) (h1 : r ≤ 18446744073709551615) : IntKind.u64.wrap a = r := by
  subst h; simp only [IntKind.wrap, IntKind.bits, IntKind.signed]; simp; omega
theorem w_u8 {a r : Int} (h : a = r) (h0 : 0 ≤ r) (h1 : r ≤ 255) : IntKind.u8.wrap a = r := by
  subst h; simp only [IntKind.wrap, IntKind.bits, IntKind.signed]; simp; omega
section
variable {P : Program} {f : Fr} {n : Nat} {R : Ending → World → Prop} {k : List Item} {σ : Env} {w w0 : World} {L : List Seg}
theorem J.quietH {id : Nat} {l : List Oper} (H : Hp w0 w L) (hm : P.follows .mixedOrders = true) (hB : Region.lexB .any l.toArray = true)
    (h : JQ D P f n R l.toArray (fun w' => Hp w0 w' L) l k σ) (hp : f.plain l = true := by exact rfl) : J D P f n R (.code (.region id l.toArray true) :: k) σ w :=
  J.quiet (fun w' => Hp w0 w' L) hm hB (fun _ hs => H.same hs) h hp
theorem JL.splitS {ops : Array Oper} {l : List Oper} {b : Bool} (t : Tmp) (_hb : ev n σ (.tmp t) = .bool b) (ht : b = true → JL D P f n R ops l k σ w) (hf : b = false → JL D P f n R ops l k σ w) :
    JL D P f n R ops l k σ w := JL.split b ht hf
theorem JQ.splitS {C : World → Prop} {ops : Array Oper} {l : List Oper} {b : Bool} (t : Tmp) (_hb : ev n σ (.tmp t) = .bool b) (ht : b = true → JQ D P f n R ops C l k σ) (hf : b = false → JQ D P f n R ops C l k σ) :
    JQ D P f n R ops C l k σ := JQ.split b ht hf
end
def SlAt (L : List Seg) (p : Option Addr) (xs : List Value) : Prop :=
  xs = [] ∨ ∃ b off C T fz, p = some ⟨b, off, none⟩ ∧ (b, Obj.cells C T fz) ∈ L.flatten ∧ ∀ j, j < xs.length → C[off + j]? = xs[j]?
theorem SlAt.cons {L : List Seg} {s : Seg} {p : Option Addr} {xs : List Value} (h : SlAt L p xs) : SlAt (s :: L) p xs := by
  rcases h with h | ⟨b, off, C, T, fz, hp, hm, hc⟩
  · exact .inl h
  · exact .inr ⟨b, off, C, T, fz, hp, by simp only [List.flatten_cons, List.mem_append]; exact .inr hm, hc⟩
theorem SlAt.some {L : List Seg} {p : Option Addr} {xs : List Value} (h : SlAt L p xs) (hx : 0 < xs.length) :
    ∃ b off, p = some ⟨b, off, none⟩ ∧ ∃ C T fz, (b, Obj.cells C T fz) ∈ L.flatten ∧ ∀ j, j < xs.length → C[off + j]? = xs[j]? := by
  rcases h with rfl | ⟨b, off, C, T, fz, hp, hm, hc⟩
  · simp at hx
  · exact ⟨b, off, hp, C, T, fz, hm, hc⟩
theorem SlAt.here {L : List Seg} {b : Nat} {l xs : List Value} {T : TypeId} (h : l.take xs.length = xs) : SlAt ([(b, cel l T)] :: L) (.some ⟨b, 0, none⟩) xs := by
  refine .inr ⟨b, 0, l.toArray, T, (0, 0), rfl, by simp [cel], fun j hj => ?_⟩
  rw [← h, List.getElem?_take]
  simp [hj]
theorem SlAt.perm {L L' : List Seg} {p : Option Addr} {xs : List Value} (h : SlAt L p xs) (hs : ∀ e, e ∈ L.flatten → e ∈ L'.flatten) : SlAt L' p xs := by
  rcases h with h | ⟨b, off, C, T, fz, hp, hm, hc⟩
  · exact .inl h
  · exact .inr ⟨b, off, C, T, fz, hp, hs _ hm, hc⟩
def OwnSl (e : TypeId) (size : Nat) (p : Option Addr) (n cap : Nat) (xs : List Value) (s : Seg) : Prop :=
  xs.length = n * size ∧ ((p = none ∧ n = 0 ∧ cap = 0 ∧ s = []) ∨ ∃ g l, p = some ⟨g, 0, none⟩ ∧ s = [(g, cel l e)] ∧ n ≤ cap ∧ l.length = cap * size ∧ l.take xs.length = xs)
theorem OwnSl.nil {e : TypeId} {size : Nat} : OwnSl e size none 0 0 [] [] := ⟨by simp, .inl ⟨rfl, rfl, rfl, rfl⟩⟩
theorem OwnSl.slAt {e : TypeId} {size : Nat} {p : Option Addr} {n cap : Nat} {xs : List Value} {s : Seg} {L : List Seg} (h : OwnSl e size p n cap xs s) : SlAt (s :: L) p xs := by
  obtain ⟨hl, ⟨rfl, rfl, rfl, rfl⟩ | ⟨g, l, rfl, rfl, hn, hc, ht⟩⟩ := h
  · exact .inl (List.eq_nil_of_length_eq_zero (by simpa using hl))
  · exact SlAt.here ht
theorem OwnSl.le {e : TypeId} {size : Nat} {p : Option Addr} {n cap : Nat} {xs : List Value} {s : Seg} (h : OwnSl e size p n cap xs s) : n ≤ cap := by
  obtain ⟨_, ⟨rfl, rfl, rfl, rfl⟩ | ⟨g, l, rfl, rfl, hn, hc, ht⟩⟩ := h
  · exact Nat.le_refl _
  · exact hn
structure Elem (P : Program) (t e : TypeId) (size bytes : Nat) : Prop where
  under : P.underlying t = some (.slice e)
  info : ∃ i z, P.info? e = some i ∧ i.zero = some z ∧ i.size = size ∧ i.bytes = bytes ∧ z.cells.size = size
def elemB (P : Program) (t e size bytes : Nat) : Bool :=
  (match P.underlying t with | some (.slice e') => e' == e | _ => false) &&
  (match P.info? e with | some i => (match i.zero with | some z => i.size == size && i.bytes == bytes && z.cells.size == size | none => false) | none => false)
theorem Elem.of {P : Program} {t e size bytes : Nat} (h : elemB P t e size bytes = true) : Elem P t e size bytes := by
  unfold elemB at h
  simp only [Bool.and_eq_true] at h
  obtain ⟨h1, h2⟩ := h
  constructor
  · revert h1; split
    · rename_i e' hu; intro he; rw [hu, beq_iff_eq.1 he]
    · intro h; cases h
  · revert h2; split
    · rename_i i hi
      split
      · rename_i z hz
        intro h
        simp only [Bool.and_eq_true, beq_iff_eq] at h
        exact ⟨i, z, hi, hz, h.1.1, h.1.2, h.2⟩
      · intro h; cases h
    · intro h; cases h
section
variable {P : Program} {ρ : Operand → Value} {w w0 : World} {L : List Seg} {d : Option Tmp} {ty : TypeId} {pos : String} {af : Array Edge} {g : Option (Nat × Bool)} {x y : Operand}
theorem Hp.slcell {p : Option Addr} {xs : List Value} (H : Hp w0 w L) (hs : SlAt L p xs) {j : Nat} {v : Value} (hj : xs[j]? = some v) : ∃ b off, p = some ⟨b, off, none⟩ ∧ w.cell? ⟨b, off + j, none⟩ = some v := by
  rcases hs with rfl | ⟨b, off, C, T, fz, hp, hm, hc⟩
  · simp at hj
  · refine ⟨b, off, hp, ?_⟩
    obtain ⟨hlt, _⟩ := List.getElem?_eq_some_iff.1 hj
    have hb := H.mem _ hm
    simp only at hb
    simp [World.cell?, hb, hc j hlt, hj]
theorem isAgg_one {t : TypeId} (ht : oneOf P t = true) : (isAgg t).run P w = .ok false w := by
  unfold oneOf at ht
  have hu : ∃ u, P.underlying t = some u ∧ (∀ fs, u ≠ .struct fs) ∧ (∀ n e, u ≠ .array n e) := by
    revert ht
    split
    · intro h; cases h
    · intro h; cases h
    · intro h; cases h
    · rename_i h1 h2 h3
      intro _
      cases hu : P.underlying t with
      | none => exact absurd hu h3
      | some u => exact ⟨u, rfl, fun fs e => h1 fs (by rw [hu, e]), fun n e he => h2 n e (by rw [hu, he])⟩
  obtain ⟨u, hu, h1, h2⟩ := hu
  unfold isAgg
  simp only [Sem.run_bind, run_underlying hu, Result.andThen_ok]
  cases u <;> first | rfl | exact absurd rfl (h1 _) | exact absurd rfl (h2 _ _)
theorem RX.loadS {t : TypeId} {b off o j : Nat} {xs : List Value} {v : Value} (H : Hp w0 w L) (hs : SlAt L (.some ⟨b, off, none⟩) xs) (hx : ρ x = .pointer (some ⟨b, o, none⟩)) (ho : o = off + j) (hj : xs[j]? = some v)
    (ht : oneOf P t = true) : Runs P ρ ⟨d, .load t x, ty, pos, af, g⟩ w v := by
  subst ho
  obtain ⟨b', off', hp, hc⟩ := H.slcell hs hj
  cases hp
  unfold Runs
  simp [execOp, hx, Instr.loadAt, Instr.sureAddr, loadVar, isAgg_one ht, hc]
theorem aggOf_run {t : TypeId} {sz : Nat} (ht : aggOf P t = some sz) : (isAgg t).run P w = .ok true w ∧ (sizeOf t).run P w = .ok sz w := by
  unfold aggOf at ht
  have h2 : (P.info? t).map (·.size) = some sz := by
    revert ht; split
    · exact id
    · exact id
    · intro h; cases h
  refine ⟨?_, szOf_run h2⟩
  revert ht
  split
  · rename_i fs hu; intro _; unfold isAgg; simp only [Sem.run_bind, run_underlying hu, Result.andThen_ok]; rfl
  · rename_i n e hu; intro _; unfold isAgg; simp only [Sem.run_bind, run_underlying hu, Result.andThen_ok]; rfl
  · intro h; cases h
theorem run_loadCellsFrom {b o : Nat} : ∀ (vs : List Value) (i : Nat) (acc : Array Value), (∀ j v, vs[j]? = some v → w.cell? ⟨b, o + (i + j), none⟩ = some v) →
    (loadCellsFrom ⟨b, o, none⟩ i vs.length acc).run P w = .ok (acc ++ vs.toArray) w := by
  intro vs
  induction vs with
  | nil => intro i acc _; simp [loadCellsFrom]
  | cons v vs ih =>
    intro i acc h
    have h0 := h 0 v rfl
    simp only [Nat.add_zero] at h0
    simp only [List.length_cons, loadCellsFrom, Sem.run_bind, run_load, Addr.add_lit, h0, Result.andThen_ok]
    rw [ih (i + 1) (acc.push v) (fun j u hj => by have := h (j + 1) u (by simpa using hj); rw [← this]; congr 2; omega)]
    simp
theorem RX.loadAgg {t T : TypeId} {b o i sz : Nat} {l vs : List Value} (H : Hp w0 w L) (hx : ρ x = .pointer (some ⟨b, o, none⟩)) (hi : L[i]? = some [(b, cel l T)]) (hv : readN l o sz = some vs)
    (ht : aggOf P t = some sz) : Runs P ρ ⟨d, .load t x, ty, pos, af, g⟩ w (.agg vs.toArray) := by
  obtain ⟨h1, h2⟩ := aggOf_run (P := P) (w := w) ht
  unfold readN at hv
  simp only at hv
  split at hv
  · rename_i hlen
    have := Option.some.inj hv
    subst this
    have hc := run_loadCellsFrom (P := P) (w := w) (b := b) (o := o) ((l.drop o).take sz) 0 #[] (fun j v hj => by
      rw [H.cell hi]
      rw [List.getElem?_take] at hj
      split at hj
      · rw [List.getElem?_drop] at hj
        simpa using hj
      · cases hj)
    rw [hlen] at hc
    unfold Runs
    simp [execOp, hx, Instr.loadAt, Instr.sureAddr, loadVar, h1, h2, loadCells, hc]
  · cases hv
theorem RX.loadAggS {t : TypeId} {b off o j sz : Nat} {xs vs : List Value} (H : Hp w0 w L) (hs : SlAt L (.some ⟨b, off, none⟩) xs) (hx : ρ x = .pointer (some ⟨b, o, none⟩)) (ho : o = off + j) (hv : readN xs j sz = some vs)
    (ht : aggOf P t = some sz) : Runs P ρ ⟨d, .load t x, ty, pos, af, g⟩ w (.agg vs.toArray) := by
  subst ho
  obtain ⟨h1, h2⟩ := aggOf_run (P := P) (w := w) ht
  unfold readN at hv
  simp only at hv
  split at hv
  · rename_i hlen
    have := Option.some.inj hv
    subst this
    have hc := run_loadCellsFrom (P := P) (w := w) (b := b) (o := off + j) ((xs.drop j).take sz) 0 #[] (fun q v hq => by
      rw [List.getElem?_take] at hq
      split at hq
      · rw [List.getElem?_drop] at hq
        obtain ⟨b', off', hp, hc⟩ := H.slcell hs hq
        cases hp
        rw [← hc]; congr 2; omega
      · cases hq)
    rw [hlen] at hc
    unfold Runs
    simp [execOp, hx, Instr.loadAt, Instr.sureAddr, loadVar, h1, h2, loadCells, hc]
  · cases hv
theorem EX.buildSlice1 {t e bytes : Nat} {v : Value} (H : Hp w0 w L) (he : Elem P t e 1 bytes) (hx : ρ x = v) (hv : isCell v = true) :
    Does P ρ ⟨d, .buildSlice t 1 #[(0, x)], ty, pos, af, g⟩ w fun u w' => ∃ b, u = .slice (some ⟨b, 0, none⟩) 1 1 ∧ Hp w0 w' ([(b, cel [v] e)] :: L) := by
  obtain ⟨hu, i, z, hi, hz, hs, hb, hzs⟩ := he
  have hcells : v.cells = #[v] := by cases v <;> first | rfl | cases hv
  refine Does.of_run (v := .slice (some ⟨w.heap.size, 0, none⟩) 1 1) (w' := w.alloc (cel [v] e)) ?_ ⟨_, rfl, H.alloc _⟩
  simp only [execOp, Instr.buildSlice, Sem.run_bind, run_underlying hu, Result.andThen_ok]
  have hsz : (sizeOf e).run P w = .ok 1 w := szOf_run (by unfold szOf; rw [hi]; simp [hs])
  have hzv : (zeroValue e).run P w = .ok z w := by
    have h1 : (program : Sem Program).run P w = .ok P w := rfl
    simp [zeroValue, typeInfo, h1, hi, hz]
  have hr1 : Array.range 1 = #[0] := rfl
  simp only [hsz, Result.andThen_ok, Nat.mul_one]
  simp [hzv, hx, Instr.fill, hcells, newRow, hr1, cel]
theorem EX.buildSlice0 {t e size bytes : Nat} (H : Hp w0 w L) (he : Elem P t e size bytes) :
    Does P ρ ⟨d, .buildSlice t 0 #[], ty, pos, af, g⟩ w fun u w' => ∃ b, u = .slice (some ⟨b, 0, none⟩) 0 0 ∧ Hp w0 w' ([(b, cel [] e)] :: L) := by
  obtain ⟨hu, i, z, hi, hz, hs, hb, hzs⟩ := he
  refine Does.of_run (v := .slice (some ⟨w.heap.size, 0, none⟩) 0 0) (w' := w.alloc (cel [] e)) ?_ ⟨_, rfl, H.alloc _⟩
  simp only [execOp, Instr.buildSlice, Sem.run_bind, run_underlying hu, Result.andThen_ok]
  have hsz : (sizeOf e).run P w = .ok size w := szOf_run (by unfold szOf; rw [hi]; simp [hs])
  simp only [hsz, Result.andThen_ok, Nat.zero_mul]
  have hr0 : Array.range 0 = #[] := rfl
  simp [Instr.fill, newRow, cel, hr0]
theorem OwnSl.empty {e size g : Nat} : OwnSl e size (some ⟨g, 0, none⟩) 0 0 [] [(g, cel [] e)] := ⟨by simp, .inr ⟨g, [], rfl, rfl, Nat.le_refl _, by simp, by simp⟩⟩
theorem OwnSl.one {e g : Nat} {v : Value} : OwnSl e 1 (some ⟨g, 0, none⟩) 1 1 [v] [(g, cel [v] e)] := ⟨by simp, .inr ⟨g, [v], rfl, rfl, Nat.le_refl _, by simp, by simp⟩⟩
theorem len_zeroCells (z : Array Value) (n : Nat) : (Builtin.zeroCells z n).size = n * z.size := by simp [Builtin.zeroCells]
theorem EX.append {t e size bytes i n cap m c : Nat} {q : Option Addr} {pa : Option Addr} {xs ys : List Value} {s : Seg} {L' : Seg → List Seg} (H : Hp w0 w L) (he : Elem P t e size bytes)
    (hx : ρ x = .slice pa n cap) (hy : ρ y = .slice q m c) (hi : L[i]? = some s) (ho : OwnSl e size pa n cap xs s) (hs : SlAt L q ys) (hl : ys.length = m * size) (h1 : ∀ v ∈ ys, isCell v = true)
    (hsz : 0 < size) (hb : (n + m) * bytes ≤ 140737488355328) (hnm : n + m ≤ 4611686018427387904) (hL : ∀ s', L.set i s' = L' s') :
    Does P ρ ⟨d, .call { callee := .builtin .append, args := #[x, y], argTypes := #[t, t] }, ty, pos, af, g⟩ w fun u w' =>
      ∃ pa' cap' s', u = .slice pa' (n + m) cap' ∧ OwnSl e size pa' (n + m) cap' (xs ++ ys) s' ∧ Hp w0 w' (L' s') := by
  obtain ⟨hu, inf, z, hinf, hz, hsize, hbytes, hzs⟩ := he
  subst hsize hbytes
  have hexec : ∀ u w', (Builtin.append_ #[t, t] ty #[.slice pa n cap, .slice q m c]).run P w = .ok u w' →
      (execOp ρ ⟨d, .call { callee := .builtin .append, args := #[x, y], argTypes := #[t, t] }, ty, pos, af, g⟩).run P w = .ok (.value u) w' := by
    intro u w' h
    simp only [execOp, resolve, invoke, builtin, Sem.run_bind, Sem.run_pure, Result.andThen_ok, List.map_toArray, List.map_cons, List.map_nil, hx, hy, h]
  have hset : ∀ s', L.set i s' = L' s' := hL
  -- the segment dropped, another laid in its place
  have hreplace : ∀ (w' : World) (b : Nat) (o : Obj), Hp w0 w' ([(b, o)] :: L) → Hp w0 w' (L' [(b, o)]) := by
    intro w' b o h
    rw [← hset]
    have h2 := h.pull (i + 1) (s := s) (by simpa using hi)
    simp only [List.eraseIdx_cons_succ] at h2
    have h3 := h2.drop
    refine perm_of_flatten h3 ?_
    have h4 : (L.set i [(b, o)])[i]? = some [(b, o)] := by
      rw [List.getElem?_set_self]; exact (List.getElem?_eq_some_iff.1 hi).1
    have h5 := get_perm h4
    rw [List.eraseIdx_set_eq] at h5
    exact h5.symm
  have hnil : m = 0 → Does P ρ ⟨d, .call { callee := .builtin .append, args := #[x, y], argTypes := #[t, t] }, ty, pos, af, g⟩ w fun u w' =>
      ∃ pa' cap' s', u = .slice pa' (n + m) cap' ∧ OwnSl e inf.size pa' (n + m) cap' (xs ++ ys) s' ∧ Hp w0 w' (L' s') := by
    intro hm
    subst hm
    have hys : ys = [] := List.eq_nil_of_length_eq_zero (by simpa using hl)
    subst hys
    refine Does.of_run (v := .slice pa n cap) (w' := w) (hexec _ _ ?_) ⟨pa, cap, s, rfl, by simpa using ho, ?_⟩
    · have hle := ho.le
      cases q <;> cases pa <;> simp [Builtin.append_, run_underlying hu, sizeOf, typeInfo, hinf, Builtin.lenOf, hle, Builtin.firstCells, loadCells, loadCellsFrom, storeCells]
    · rw [← hset]
      have : L.set i s = L := by
        apply List.ext_getElem? ; intro j
        rw [List.getElem?_set]
        split
        · rename_i hij; subst hij; split
          · exact hi.symm
          · rename_i h; exact absurd (List.getElem?_eq_some_iff.1 hi).1 h
        · rfl
      rw [this]; exact H
  by_cases hm : m = 0
  · exact hnil hm
  have hypos : 0 < ys.length := by rw [hl]; exact Nat.mul_pos (by omega) hsz
  have hsrc : ∃ b off, q = some ⟨b, off, none⟩ ∧ ∀ j v, ys[j]? = some v → w.cell? ((⟨b, off, none⟩ : Addr).add j) = some v := by
    obtain ⟨b, off, hq, C, T, fz, hmem, hc⟩ := hs.some hypos
    refine ⟨b, off, hq, fun j v hj => ?_⟩
    obtain ⟨b', off', hp, hc'⟩ := H.slcell hs hj
    rw [hq] at hp
    cases hp
    rw [Addr.add_lit]; exact hc'
  obtain ⟨b, off, rfl, hnews⟩ := hsrc
  have h1' : ∀ u ∈ ys, u.oneCell' = true := fun u hu => by have := h1 u hu; cases u <;> first | rfl | cases this
  have h63 : ((n + m : Nat) : Int) ≤ 9223372036854775807 := by omega
  have hdrew : ∀ o, Hp w0 (w.drew.alloc o) ([(w.heap.size, o)] :: L) := fun o => (H.same (w' := w.drew) ⟨rfl, rfl, rfl, rfl⟩).alloc o
  have hcapge : ∀ old, n + m ≤ grownCap w (n + m) old e := fun old => grownCap_ge w (n + m) old e
  have hzc : ∀ old, (Builtin.zeroCells z.cells (grownCap w (n + m) old e - (n + m))).size = (grownCap w (n + m) old e - (n + m)) * inf.size := fun old => by rw [len_zeroCells, hzs]
  obtain ⟨hlen, ⟨rfl, rfl, rfl, rfl⟩ | ⟨gb, l, rfl, rfl, hnc, hlc, htk⟩⟩ := ho
  · have hxs : xs = [] := List.eq_nil_of_length_eq_zero (by simpa using hlen)
    subst hxs
    have hb0 : m * inf.bytes ≤ 140737488355328 := by simpa using hb
    have hr := run_append_nil (P := P) w t ty e inf z hu hinf hz ⟨b, off, none⟩ m c ys hl hnews (by omega) (by omega) (by omega)
    simp only [Nat.zero_add, List.nil_append] at *
    refine Does.of_run (hexec _ _ hr) ⟨_, _, [(w.heap.size, cel (ys ++ (Builtin.zeroCells z.cells (grownCap w m 0 e - m)).toList) e)], rfl, ⟨hl, .inr ⟨_, _, rfl, rfl, hcapge 0, ?_, ?_⟩⟩, ?_⟩
    · simp only [List.length_append, Array.length_toList, hzc, hl, ← Nat.add_mul]; have := hcapge 0; congr 1; omega
    · exact List.take_left
    · have h5 := hreplace _ _ _ (hdrew (.cells (ys.toArray ++ Builtin.zeroCells z.cells (grownCap w m 0 e - m)) e))
      have h6 : cel (ys ++ (Builtin.zeroCells z.cells (grownCap w m 0 e - m)).toList) e = .cells (ys.toArray ++ Builtin.zeroCells z.cells (grownCap w m 0 e - m)) e := by
        unfold cel; congr 1; apply Array.ext'; simp
      rw [h6]; exact h5
  · have hcur := H.get1 hi
    by_cases hroom : n + m ≤ cap
    · have hfit : n * inf.size + ys.length ≤ l.toArray.size := by rw [hl, List.size_toArray, hlc, ← Nat.add_mul]; exact Nat.mul_le_mul_right _ hroom
      have hr := run_append_room (P := P) w t ty e inf hu hinf gb n cap l.toArray hcur ⟨b, off, none⟩ m c ys hl hnews h1' hroom hfit
      refine Does.of_run (hexec _ _ hr) ⟨_, cap, [(gb, cel (l.take (n * inf.size) ++ ys ++ l.drop (n * inf.size + ys.length)) e)], rfl, ⟨by rw [List.length_append, hlen, hl, Nat.add_mul], .inr ⟨gb, _, rfl, rfl, hroom, ?_, ?_⟩⟩, ?_⟩
      · simp only [List.size_toArray] at hfit
        simp only [List.length_append, List.length_take, List.length_drop]
        omega
      · rw [← hlen, htk]; exact List.take_left
      · rw [← hset]
        exact H.set hi (heap' := (w.setRow gb _).heap) (by simp [World.setRow]) (setRow_heap w gb _ _ e _ hcur) (fun c hc => setRow_other w gb c _ hc)
    · have holds : ∀ j v, xs[j]? = some v → w.cell? ((⟨gb, 0, none⟩ : Addr).add j) = some v := by
        intro j v hj
        have := H.cell hi (0 + j)
        rw [Addr.add_lit, this]
        obtain ⟨hlt, _⟩ := List.getElem?_eq_some_iff.1 hj
        rw [← htk, List.getElem?_take, if_pos hlt] at hj
        simpa using hj
      have hr := run_append_grow (P := P) w t ty e inf z hu hinf hz ⟨gb, 0, none⟩ n cap xs hlen holds ⟨b, off, none⟩ m c ys hl hnews (by omega) h63 (growslice_fits (by omega) hb)
      refine Does.of_run (hexec _ _ hr) ⟨_, _, [(w.heap.size, cel (xs ++ ys ++ (Builtin.zeroCells z.cells (grownCap w (n + m) cap e - (n + m))).toList) e)], rfl,
        ⟨by rw [List.length_append, hlen, hl, Nat.add_mul], .inr ⟨_, _, rfl, rfl, hcapge cap, ?_, ?_⟩⟩, ?_⟩
      · simp only [List.length_append, Array.length_toList, hzc, hlen, hl, ← Nat.add_mul]; have := hcapge cap; congr 1; omega
      · exact List.take_left
      · have h5 := hreplace _ _ _ (hdrew (.cells (xs.toArray ++ ys.toArray ++ Builtin.zeroCells z.cells (grownCap w (n + m) cap e - (n + m))) e))
        have h6 : cel (xs ++ ys ++ (Builtin.zeroCells z.cells (grownCap w (n + m) cap e - (n + m))).toList) e = .cells (xs.toArray ++ ys.toArray ++ Builtin.zeroCells z.cells (grownCap w (n + m) cap e - (n + m))) e := by
          unfold cel; congr 1; apply Array.ext'; simp
        rw [h6]; exact h5
end
end Go.Eng
namespace Go.Eng
open Go
variable {D : List Deferred}
theorem OwnSl.ptr {e size n cap : Nat} {p : Option Addr} {xs : List Value} {s : Seg} (h : OwnSl e size p n cap xs s) (hn : 0 < n) :
    ∃ g l, p = some ⟨g, 0, none⟩ ∧ s = [(g, cel l e)] ∧ n ≤ cap ∧ l.length = cap * size ∧ l.take xs.length = xs := by
  obtain ⟨_, ⟨_, h0, _⟩ | h⟩ := h
  · omega
  · exact h
def isErr : Value → Bool
  | .nilIface | .iface _ _ => true
  | _ => false
def isNil : Value → Bool
  | .nilIface => true
  | _ => false
def isIface (P : Program) (t : TypeId) : Bool :=
  match P.underlying t with
  | some (.interface _) => true
  | _ => false
def GVal (L : List Seg) (g : Nat) (v : Value) : Prop := ∃ C T fz, (g, Obj.cells C T fz) ∈ L.flatten ∧ C[0]? = some v
theorem GVal.cons {L : List Seg} {s : Seg} {g : Nat} {v : Value} (h : GVal L g v) : GVal (s :: L) g v := by
  obtain ⟨C, T, fz, hm, hc⟩ := h
  exact ⟨C, T, fz, by simp only [List.flatten_cons, List.mem_append]; exact .inr hm, hc⟩
structure GErr (L : List Seg) (g : Nat) (v : Value) : Prop where
  at_ : GVal L g v
  ie : isErr v = true
  nn : isNil v = false
theorem GErr.cons {L : List Seg} {s : Seg} {g : Nat} {v : Value} (h : GErr L g v) : GErr (s :: L) g v := ⟨h.at_.cons, h.ie, h.nn⟩
theorem bytesL_inj {a b : ByteArray} : (a.toList == b.toList) = decide (a = b) := by
  rw [ByteArray.toList_eq, ByteArray.toList_eq]
  by_cases e : a = b
  · simp [e]
  · have h : ¬ a.data.toList = b.data.toList := fun h2 => e (by cases a; cases b; congr 1; exact Array.ext' h2)
    rw [decide_eq_false e]; exact beq_eq_false_iff_ne.2 h
section
variable {P : Program} {ρ : Operand → Value} {w w0 : World} {L : List Seg} {d : Option Tmp} {ty : TypeId} {pos : String} {af : Array Edge} {g : Option (Nat × Bool)} {x y : Operand}
theorem equal_ifaceNil {t : TypeId} {v : Value} (ht : isIface P t = true) (hv : isErr v = true) : (Op.equal t v .nilIface).run P w = .ok (isNil v) w := by
  unfold isIface at ht
  split at ht
  · rename_i ms hu
    unfold Op.equal Op.maxDepth Op.equalIn
    simp only [Sem.run_bind, run_underlying hu, Result.andThen_ok]
    cases v <;> first | rfl | cases hv
  · cases ht
theorem eqGuard_const {op : BinOp} {t : TypeId} {c u : Value} (h : isErr u = true) : eqGuard op t x (.const c) u .nilIface = pure () := by
  cases u
  case iface a b => exact eqGuard_at_iface ..
  case nilIface => exact eqGuard_nil_constR ..
  all_goals exact absurd h (by simp [isErr])
theorem RX.ifnil_eql {t t' : TypeId} {v : Value} (hx : ρ x = v) (hy : ρ (.const .nilIface) = .nilIface) (hv : isErr v = true) (ht : isIface P t = true) :
    Runs P ρ ⟨d, .binOp .eql t x (.const .nilIface) t', ty, pos, af, g⟩ w (.bool (isNil v)) := by
  have h1 : (binOp .eql t v .nilIface).run P w = .ok (.bool (isNil v)) w := by
    have := equal_ifaceNil (w := w) ht hv
    cases v
    case iface a b => simp only [binOp]; simp [this]
    case nilIface => simp only [binOp]; simp [this]
    all_goals exact absurd hv (by simp [isErr])
  unfold Runs
  simp [execOp, hx, hy, eqGuard_const hv, h1]
theorem RX.ifnil_neq {t t' : TypeId} {v : Value} (hx : ρ x = v) (hy : ρ (.const .nilIface) = .nilIface) (hv : isErr v = true) (ht : isIface P t = true) :
    Runs P ρ ⟨d, .binOp .neq t x (.const .nilIface) t', ty, pos, af, g⟩ w (.bool (!isNil v)) := by
  have h1 : (binOp .neq t v .nilIface).run P w = .ok (.bool (!isNil v)) w := by
    have := equal_ifaceNil (w := w) ht hv
    cases v
    case iface a b => simp only [binOp]; simp [this]
    case nilIface => simp only [binOp]; simp [this]
    all_goals exact absurd hv (by simp [isErr])
  unfold Runs
  simp [execOp, hx, hy, eqGuard_const hv, h1]
theorem RX.str_eql {t t' : TypeId} {a b : ByteArray} (hx : ρ x = .string a) (hy : ρ y = .string b) : Runs P ρ ⟨d, .binOp .eql t x y t', ty, pos, af, g⟩ w (.bool (decide (a = b))) := by
  unfold Runs
  simp only [execOp, hx, hy, eqGuard_at_string, binOp, Op.stringOp, bytesL_inj]; rfl
theorem RX.str_neq {t t' : TypeId} {a b : ByteArray} (hx : ρ x = .string a) (hy : ρ y = .string b) : Runs P ρ ⟨d, .binOp .neq t x y t', ty, pos, af, g⟩ w (.bool (decide (¬ a = b))) := by
  unfold Runs
  have : (!decide (a = b)) = decide (¬ a = b) := by by_cases h : a = b <;> simp [h]
  simp only [execOp, hx, hy, eqGuard_at_string, binOp, Op.stringOp, bytesL_inj, this]; rfl
theorem equal_bool {t : TypeId} {a b : Bool} (ht : P.underlying t = some .bool) : (Op.equal t (.bool a) (.bool b)).run P w = .ok (a == b) w := by
  unfold Op.equal Op.maxDepth Op.equalIn
  simp only [Sem.run_bind, run_underlying ht, Result.andThen_ok]
  rfl
theorem RX.bool_eql {t t' : TypeId} {a b : Bool} (hx : ρ x = .bool a) (hy : ρ y = .bool b) (ht : P.underlying t = some .bool) : Runs P ρ ⟨d, .binOp .eql t x y t', ty, pos, af, g⟩ w (.bool (a == b)) := by
  unfold Runs
  simp only [execOp, hx, hy, eqGuard_at_bool, binOp]
  simp [equal_bool ht]
theorem RX.loadG {t gn : Nat} {v : Value} (H : Hp w0 w L) (hx : ρ x = .pointer (some ⟨gn, 0, none⟩)) (hg : GVal L gn v) (ht : oneOf P t = true) : Runs P ρ ⟨d, .load t x, ty, pos, af, g⟩ w v := by
  obtain ⟨C, T, fz, hm, hc⟩ := hg
  have hb := H.mem _ hm
  simp only at hb
  have hcell : w.cell? ⟨gn, 0, none⟩ = some v := by simp [World.cell?, hb, hc]
  unfold Runs
  simp [execOp, hx, Instr.loadAt, Instr.sureAddr, loadVar, isAgg_one ht, hcell]
theorem arrayOf_run {t n e sz : Nat} (h : arrayOf P t = some (n, e, sz)) : P.underlying t = some (.array n e) ∧ ∃ i, P.info? e = some i ∧ i.size = sz := by
  unfold arrayOf at h
  split at h
  · rename_i n2 e2 hu
    cases hi : P.info? e2 with
    | none => simp [hi] at h
    | some i =>
      simp only [hi, Option.map_some, Option.some.injEq, Prod.mk.injEq] at h
      obtain ⟨rfl, rfl, rfl⟩ := h
      exact ⟨hu, i, hi, rfl⟩
  · cases h
theorem RX.indexArr {t e sz b o n o' : Nat} {k : IntKind} {i : Int} (hx : ρ x = .pointer (some ⟨b, o, none⟩)) (hi : ρ y = .int k i) (ht : arrayOf P t = some (n, e, sz))
    (h0 : 0 ≤ i) (h1 : i < (n : Int)) (ho : o + i.toNat * sz = o') : Runs P ρ ⟨d, .indexAddr t x y, ty, pos, af, g⟩ w (.pointer (some ⟨b, o', none⟩)) := by
  subst ho
  obtain ⟨hu, inf, hinf, hsz⟩ := arrayOf_run ht
  unfold Runs
  simp [execOp, hx, hi, Instr.indexAt, asIntOf, run_underlying hu, Instr.sureAddr, h0, h1, sizeOf, typeInfo, hinf, hsz, Addr.add_lit]
theorem RX.indexStr {t : TypeId} {k : IntKind} {i : Int} {s : ByteArray} {b : UInt8} (hx : ρ x = .string s) (hi : ρ y = .int k i) (ht : P.underlying t = some .string) (h0 : 0 ≤ i) (hb : s.data.toList[i.toNat]? = some b) :
    Runs P ρ ⟨d, .index t x y, ty, pos, af, g⟩ w (.int .u8 (b.toNat : Int)) := by
  have h2 : s[i.toNat]? = some b := by
    have : s[i.toNat]? = s.data[i.toNat]? := rfl
    rw [this]; simpa using hb
  unfold Runs
  simp [execOp, hx, hi, Instr.index, asIntOf, run_underlying ht, h0, h2]
theorem setCells_run {T : TypeId} {b i : Nat} : ∀ (vs : List Value) (l : List Value) (w : World) (L : List Seg) (o j : Nat), Hp w0 w L → L[i]? = some [(b, cel l T)] → (∀ v ∈ vs, isCell v = true) → o + j + vs.length ≤ l.length →
    ∃ w', (storeCells ⟨b, o, none⟩ vs j).run P w = .ok () w' ∧ Hp w0 w' (L.set i [(b, cel (setN l (o + j) vs) T)]) := by
  intro vs
  induction vs with
  | nil =>
    intro l w L o j H hi _ _
    refine ⟨w, by simp [storeCells], ?_⟩
    simp only [setN]
    have : L.set i [(b, cel l T)] = L := by
      apply List.ext_getElem?; intro q
      rw [List.getElem?_set]
      split
      · rename_i hq; subst hq; split
        · exact hi.symm
        · rename_i h; exact absurd (List.getElem?_eq_some_iff.1 hi).1 h
      · rfl
    rw [this]; exact H
  | cons v vs ih =>
    intro l w L o j H hi hv ho
    simp only [List.length_cons] at ho
    have hc := H.cell hi (o + j)
    rw [List.getElem?_eq_getElem (by omega)] at hc
    have hfz := H.frozen hi (o + j)
    have hst : (Go.store ⟨b, o + j, none⟩ v).run P w = .ok () (w.setCell ⟨b, o + j, none⟩ v) := by
      have h0 := hv v (List.mem_cons_self)
      rw [run_store P w ⟨b, o + j, none⟩ v .plain (by cases v <;> first | rfl | cases h0)]
      rw [hc, hfz]; rfl
    have H2 := H.setCell hi (o + j) v
    have hi2 : (L.set i [(b, cel (l.set (o + j) v) T)])[i]? = some [(b, cel (l.set (o + j) v) T)] := List.getElem?_set_self (List.getElem?_eq_some_iff.1 hi).1
    obtain ⟨w', hr, H3⟩ := ih _ _ _ o (j + 1) H2 hi2 (fun u hu => hv u (List.mem_cons_of_mem _ hu)) (by simp; omega)
    refine ⟨w', ?_, ?_⟩
    · simp only [storeCells, Sem.run_bind, Addr.add_lit, hst, Result.andThen_ok, hr]
    · rw [List.set_set] at H3
      simpa [setN, Nat.add_assoc] using H3
theorem EX.storeAgg {t T : TypeId} {b o i : Nat} {l l' vs : List Value} {L' : List Seg} (H : Hp w0 w L) (hx : ρ x = .pointer (some ⟨b, o, none⟩)) (hy : ρ y = .agg vs.toArray) (hi : L[i]? = some [(b, cel l T)])
    (hv : ∀ v ∈ vs, isCell v = true) (ho : o + vs.length ≤ l.length) (ht : szOf P t = some vs.length) (hl : setN l o vs = l') (hL : L.set i [(b, cel l' T)] = L') :
    Does P ρ ⟨d, .store t x y, ty, pos, af, g⟩ w fun _ w' => Hp w0 w' L' := by
  subst hl hL
  obtain ⟨w', hr, H'⟩ := setCells_run (P := P) vs l w L o 0 H hi hv (by omega)
  refine Does.of_skip (w' := w') ?_ (by simpa using H')
  simp [execOp, hx, hy, Instr.storeAt, Instr.sureAddr, storeVar, szOf_run ht, Value.cells, hr]
theorem RX.build {t : TypeId} {parts : List (Nat × Operand)} {pv : List (Nat × Value)} {res : List Value} (hp : parts.map (fun q => (q.1, ρ q.2)) = pv)
    (hb : (Instr.build t pv.toArray).run P w = .ok (.agg res.toArray) w) : Runs P ρ ⟨d, .build t parts.toArray, ty, pos, af, g⟩ w (.agg res.toArray) := by
  subst hp
  unfold Runs
  simp only [execOp, Sem.run_bind, List.map_toArray]
  rw [hb]; rfl
theorem EX.buildSlice {t e len : Nat} {parts : List (Nat × Operand)} {pv : List (Nat × Value)} {l : List Value} (H : Hp w0 w L) (hp : parts.map (fun q => (q.1, ρ q.2)) = pv)
    (hb : (Instr.buildSlice t len pv.toArray).run P w = .ok (.slice (some ⟨w.heap.size, 0, none⟩) len len) (w.alloc (cel l e))) :
    Does P ρ ⟨d, .buildSlice t len parts.toArray, ty, pos, af, g⟩ w fun u w' => ∃ b, u = .slice (some ⟨b, 0, none⟩) len len ∧ Hp w0 w' ([(b, cel l e)] :: L) := by
  subst hp
  refine Does.of_run (v := .slice (some ⟨w.heap.size, 0, none⟩) len len) (w' := w.alloc (cel l e)) ?_ ⟨_, rfl, H.alloc _⟩
  simp only [execOp, Sem.run_bind, List.map_toArray]
  rw [hb]; rfl
theorem run_loadAgg {t T : TypeId} {b o i sz : Nat} {l vs : List Value} (H : Hp w0 w L) (hi : L[i]? = some [(b, cel l T)]) (hv : readN l o sz = some vs) (ht : aggOf P t = some sz) :
    (loadVar t ⟨b, o, none⟩).run P w = .ok (.agg vs.toArray) w := by
  have := RX.loadAgg (P := P) (ρ := fun _ => .pointer (some ⟨b, o, none⟩)) (d := none) (ty := 0) (pos := "") (af := #[]) (g := none) (x := .tmp 0) H rfl hi hv ht
  unfold Runs at this
  simp only [execOp, Instr.loadAt, Instr.sureAddr, Sem.run_bind, Sem.run_pure, Result.andThen_ok] at this
  generalize (loadVar t ⟨b, o, none⟩).run P w = r at this
  cases r with
  | halt h w2 => cases this
  | ok v w2 => simp at this; rw [this.1, this.2]
end
section
variable {P : Program} {f : FuncId} {n : Nat} {R : Ending → World → Prop} {k : List Item} {σ : Env} {w w0 : World} {L : List Seg}
theorem J.retc {fn : Func} {a t T b o i sz : Nat} {l vs : List Value} (hf : P.funcs[f]? = some fn) (h : fn.results = #[.cell a t]) (H : Hp w0 w L) (hp : ev n σ (.tmp a) = .pointer (some ⟨b, o, none⟩)) (hi : L[i]? = some [(b, cel l T)])
    (hv : readN l o sz = some vs) (ht : aggOf P t = some sz) (hR : R (.returned (.agg vs.toArray)) w) : J [] P (.fn f) n R (.code .ret :: k) σ w :=
  J.ret_of hf (fun a' ha => by
    have h1 := ha.tmp a
    rw [hp, Array.getD_eq_getD_getElem?] at h1
    simp [results, h, h1, asAddr, run_loadAgg H hi hv ht]) hR
theorem J.retct {fn : Func} {a t T b o i sz u : Nat} {l vs : List Value} {x : Value} (hf : P.funcs[f]? = some fn) (h : fn.results = #[.cell a t, .tmp u]) (H : Hp w0 w L) (hp : ev n σ (.tmp a) = .pointer (some ⟨b, o, none⟩)) (hi : L[i]? = some [(b, cel l T)])
    (hv : readN l o sz = some vs) (ht : aggOf P t = some sz) (hx : ev n σ (.tmp u) = x) (hR : R (.returned (.tuple #[.agg vs.toArray, x])) w) : J [] P (.fn f) n R (.code .ret :: k) σ w :=
  J.ret_of hf (fun a' ha => by
    have h1 := ha.tmp a
    have h2 := ha.tmp u
    rw [hp, Array.getD_eq_getD_getElem?] at h1
    rw [hx, Array.getD_eq_getD_getElem?] at h2
    simp [results, h, h1, h2, asAddr, run_loadAgg H hi hv ht]) hR
end
end Go.Eng
namespace Go.Eng
open Go
variable {D : List Deferred}
section
variable {P : Program} {ρ : Operand → Value} {w w0 : World} {L : List Seg} {d : Option Tmp} {ty : TypeId} {pos : String} {af : Array Edge} {g : Option (Nat × Bool)} {x y : Operand}
def ErrAt (L : List Seg) (T : TypeId) (v : Value) (a : Addr) : Prop := v = .iface T (.pointer (some a)) ∧ ∃ C T', (a.block, Obj.cells C T' (0, 0)) ∈ L.flatten
theorem ErrAt.cons {s : Seg} {T : TypeId} {v : Value} {a : Addr} (h : ErrAt L T v a) : ErrAt (s :: L) T v a := by
  obtain ⟨h1, C, T', h2⟩ := h
  exact ⟨h1, C, T', by simp only [List.flatten_cons, List.mem_append]; exact .inr h2⟩
theorem RX.b2s {src dst e : TypeId} {p : Option Addr} {c : Nat} {l : List UInt8} (H : Hp w0 w L) (hx : ρ x = .slice p l.length c) (hs : SlAt L p (l.map fun b => .int .u8 b.toNat)) (h1 : sliceOf P src = some (e, 1)) (h2 : P.underlying e = some (.int .u8))
    (h3 : P.underlying dst = some .string) : Runs P ρ ⟨d, .convert src dst x, ty, pos, af, g⟩ w (.string ⟨l.toArray⟩) := by
  obtain ⟨hu, _⟩ := sliceOf_run h1
  unfold Runs
  cases hp : p with
  | none =>
    have hl : l = [] := by
      rcases hs with h | ⟨b, off, C, T, fz, h, _⟩
      · simpa using h
      · rw [hp] at h; cases h
    subst hl
    simp [execOp, hx, hp, run_convert_bytes_string w src dst e _ _ _ hu h2 h3, Conv.bytesToString]; rfl
  | some a =>
    have hc : (convert src dst (.slice (some a) l.length c)).run P w = .ok (.string ⟨l.toArray⟩) w := by
      refine run_convert_bytes_back w src dst e a c l hu h2 h3 (fun j hj => ?_)
      obtain ⟨b, off, hb, hcell⟩ := H.slcell (j := j) (v := .int .u8 (l[j].toNat : Int)) hs (by simp [hj])
      rw [hp] at hb
      cases hb
      rw [Addr.add_lit]; exact hcell
    simp [execOp, hx, hp, hc]
theorem slice_elem {t e : TypeId} {sz : Nat} (h : sliceOf P t = some (e, sz)) : P.underlying t = some (.slice (P.elem t)) ∧ P.elem t = e ∧ (sizeOf e).run P w = .ok sz w := by
  obtain ⟨hu, i, hi, hs⟩ := sliceOf_run h
  have he : P.elem t = e := by unfold Program.elem; rw [hu]
  refine ⟨by rw [he]; exact hu, he, szOf_run ?_⟩
  unfold szOf; rw [hi, ← hs]; rfl
def behind (p : Option Addr) (cap l sz : Nat) : Option Addr :=
  match p with
  | none => none
  | some a => if cap = l then some a else some ⟨a.block, a.off + l * sz, a.spot⟩
theorem sliced_plain {p : Option Addr} {l h m s : Nat} (hp : ∀ a, p = some a → a.spot = none) : sliced p l h m s = .slice (behind p m l s) (h - l) (m - l) := by
  unfold sliced behind
  cases p with
  | none => simp
  | some a =>
    have hv := hp a rfl
    cases a with
    | mk b o v =>
      simp only at hv
      subst hv
      split
      · simp
      · simp [Addr.add_lit]
theorem RX.slice_h {t e : TypeId} {p : Option Addr} {n cap sz : Nat} {k : IntKind} {h : Int} {r : Nat} (hx : ρ x = .slice p n cap) (hy : ρ y = .int k h) (ht : sliceOf P t = some (e, sz)) (hp : ∀ a, p = some a → a.spot = none)
    (h0 : 0 ≤ h) (h1 : h ≤ cap) (hr : h.toNat = r) : Runs P ρ ⟨d, .slice t x none (some y) none, ty, pos, af, g⟩ w (.slice p r cap) := by
  obtain ⟨hu, he, hs⟩ := slice_elem (w := w) ht
  subst hr
  have hb : behind p cap 0 sz = p := by
    unfold behind
    cases p with
    | none => rfl
    | some a => simp
  unfold Runs
  simp [execOp, hx, hy, run_sliceAt_slice w t _ _ _ _ hu, run_slice_h w t p n cap hu k h h0 h1, he, hs, sliced_plain hp, hb]
theorem RX.slice_l {t e : TypeId} {p : Option Addr} {n cap sz : Nat} {k : IntKind} {l : Int} {r : Nat} (hx : ρ x = .slice p n cap) (hy : ρ y = .int k l) (ht : sliceOf P t = some (e, sz)) (hp : ∀ a, p = some a → a.spot = none)
    (h0 : 0 ≤ l) (h1 : l ≤ n) (hr : l.toNat = r) : Runs P ρ ⟨d, .slice t x (some y) none none, ty, pos, af, g⟩ w (.slice (behind p cap r sz) (n - r) (cap - r)) := by
  obtain ⟨hu, he, hs⟩ := slice_elem (w := w) ht
  subst hr
  unfold Runs
  simp [execOp, hx, hy, run_sliceAt_slice w t _ _ _ _ hu, run_slice_l w t p n cap hu k l h0 h1, he, hs, sliced_plain hp]
theorem RX.slice_lh {t e : TypeId} {p : Option Addr} {n cap sz : Nat} {k k' : IntKind} {l h : Int} {z : Operand} {r s : Nat} (hx : ρ x = .slice p n cap) (hy : ρ y = .int k l) (hz : ρ z = .int k' h) (ht : sliceOf P t = some (e, sz))
    (hp : ∀ a, p = some a → a.spot = none) (h0 : 0 ≤ l) (h1 : l ≤ h) (h2 : h ≤ cap) (hr : l.toNat = r) (hs : h.toNat = s) : Runs P ρ ⟨d, .slice t x (some y) (some z) none, ty, pos, af, g⟩ w (.slice (behind p cap r sz) (s - r) (cap - r)) := by
  obtain ⟨hu, he, hs'⟩ := slice_elem (w := w) ht
  subst hr hs
  unfold Runs
  simp [execOp, hx, hy, hz, run_sliceAt_slice w t _ _ _ _ hu, run_slice_lh w t p n cap hu k k' l h h0 h1 h2, he, hs', sliced_plain hp]
theorem RX.str_add {t t' : TypeId} {a b : ByteArray} (hx : ρ x = .string a) (hy : ρ y = .string b) (hl : (a.size : Int) + b.size ≤ 9223372036854775807) : Runs P ρ ⟨d, .binOp .add t x y t', ty, pos, af, g⟩ w (.string (a ++ b)) := by
  unfold Runs
  simp [execOp, hx, hy, eqGuard_at_string, binOp, Op.stringOp, hl]
theorem upds_has : ∀ (l : List (Nat × Value)) (σ : Env), Has σ l → upds σ l = σ := by
  intro l
  induction l with
  | nil => intro σ _; rfl
  | cons p l ih =>
    intro σ h
    simp only [upds, ih σ h.2]
    funext t
    simp only [upd]
    cases hb : Nat.beq t p.1 with
    | true =>
      have e : t = p.1 := by simpa [Nat.beq_eq] using hb
      rw [e]; exact h.1.symm
    | false => rfl
theorem J.join {f : Fr} {n : Nat} {R : Ending → World → Prop} {k : List Item} {σ : Env} {c : Code} {ι : Type} (S : ι → List (Nat × Value)) (Φ : ι → World → Prop) (C : List (Nat × Value)) (_hC : Has σ C)
    (hk : ∀ i (ρ : Env) (w : World), Φ i w → J D P f n R k (upds (upds ρ C) (S i)) w)
    (hc : ∀ k', (∀ i (σ' : Env) (w' : World), Has σ' C → Has σ' (S i) → Φ i w' → J D P f n R k' σ' w') → J D P f n R (.code c :: k') σ w) : J D P f n R (.code c :: k) σ w :=
  hc k (fun i σ' w' h1 h2 h3 => by
    have := hk i σ' w' h3
    rw [upds_has C σ' h1, upds_has (S i) σ' h2] at this
    exact this)
theorem setN_pre : ∀ (vs l pre : List Value), l.length = vs.length → setN (pre ++ l) pre.length vs = pre ++ vs := by
  intro vs
  induction vs with
  | nil => intro l pre h; have : l = [] := List.eq_nil_of_length_eq_zero (by simpa using h); subst this; rfl
  | cons v vs ih =>
    intro l pre h
    cases l with
    | nil => simp at h
    | cons a l =>
      have h1 : (pre ++ a :: l).set pre.length v = (pre ++ [v]) ++ l := by simp
      have h2 := ih l (pre ++ [v]) (by simpa using h)
      unfold setN
      rw [h1]
      simpa using h2
theorem setN_full {l vs : List Value} (h : l.length = vs.length) : setN l 0 vs = vs := setN_pre vs l [] h
theorem SlAt.pre {p : Option Addr} {xs ys : List Value} (h : SlAt L p (xs ++ ys)) : SlAt L p xs := by
  rcases h with h | ⟨b, off, C, T, fz, hp, hm, hc⟩
  · exact .inl (List.append_eq_nil_iff.1 h).1
  · refine .inr ⟨b, off, C, T, fz, hp, hm, fun j hj => ?_⟩
    rw [hc j (by rw [List.length_append]; omega), List.getElem?_append_left hj]
theorem setN_len : ∀ (vs l : List Value) (o : Nat), (setN l o vs).length = l.length := by
  intro vs
  induction vs with
  | nil => intro l o; rfl
  | cons v vs ih => intro l o; unfold setN; rw [ih]; simp
theorem OwnSl.spot {e size n cap : Nat} {p : Option Addr} {xs : List Value} {s : Seg} (h : OwnSl e size p n cap xs s) : ∀ a, p = some a → a.spot = none := by
  intro a ha
  obtain ⟨_, ⟨rfl, _⟩ | ⟨g, l, rfl, _⟩⟩ := h
  · cases ha
  · cases ha; rfl
end
end Go.Eng
namespace Go.Eng
open Go Go.RowKit Go.ChangeShapes Go.WideShapes
variable {D : List Deferred}
section
variable {P : Program} {W : World}
theorem gval_of_var {n : String} {g : Nat} {v : Value} (hg : P.globalNamed n = some g) (hv : W.var? P n = some #[v]) : GVal [allOf W] g v := by
  unfold World.var? at hv
  rw [hg] at hv
  simp only [Option.bind_some] at hv
  split at hv
  · rename_i cs t fz hb
    cases hv
    exact ⟨#[v], t, fz, by simpa using allOf_mem hb, rfl⟩
  · cases hv
theorem slAt_of_var {n : String} {g : Nat} {cs : Array Value} (hg : P.globalNamed n = some g) (hv : W.var? P n = some cs) : SlAt [allOf W] (some ⟨g, 0, none⟩) cs.toList := by
  unfold World.var? at hv
  rw [hg] at hv
  simp only [Option.bind_some] at hv
  split at hv
  · rename_i cs' t fz hb
    cases hv
    exact .inr ⟨g, 0, cs, t, fz, rfl, by simpa using allOf_mem hb, fun j hj => by simp⟩
  · cases hv
def errItem (T : String) (x : String × List UInt8) : String × DataW Unit := (x.1, .iface T (.ptr (.agg [.lit (.string x.2)])))
def errTies (P : Program) (es : List (String × List UInt8)) (ti : TypeId) : Bool :=
  es.all fun x => match P.globalNamed x.1 with
    | some g => (P.globals[g]?).map (·.type) == some ti
    | none => false
structure ErrType (P : Program) (T : String) (ti tp te ts : TypeId) : Prop where
  hi : ∃ ms, P.underlying ti = some (.interface ms)
  hrow : ∀ u, P.typeName? 3 u = some T → u = tp
  hp : P.underlying tp = some (.pointer te)
  he : ∃ f : Field, P.underlying te = some (.struct #[f]) ∧ f.type = ts ∧ f.offset = 0
  hs : P.underlying ts = some .string
  hc : P.cellsOf te = 1
  hcs : P.cellsOf ts = 1
theorem errs_laid {T : String} {ti tp te ts : TypeId} (hT : ErrType P T ti tp te ts) : ∀ (es : List (String × List UInt8)) (rest : List (String × DataW Unit)) (ps : List MemPlace), errTies P es ti = true →
    DataW.LaidVars P W (es.map (errItem T) ++ rest) ps →
    (∀ b off, MemPlace.cell b off ∈ ps → (∃ c t, W.heap[b]? = some (.cells c t (0, 0))) ∧ ∀ u v, W.cell? ⟨b, off, none⟩ = some (.iface u v) → Value.okWide P W .any 0 u v) →
    ∃ (A : List Addr) (q : List MemPlace), A.length = es.length ∧ DataW.LaidVars P W rest q ∧ (∀ p ∈ q, p ∈ ps) ∧
      ∀ (i : Nat) (n : String) (txt : List UInt8), es[i]? = some (n, txt) → ∃ (a : Addr) (g : Nat) (s : ByteArray), A[i]? = some a ∧ P.globalNamed n = some g ∧ W.var? P n = some #[.iface tp (.pointer (some a))] ∧ W.cell? a = some (.string s) ∧ s.data.toList = txt ∧
        ∃ c t, W.heap[a.block]? = some (.cells c t (0, 0)) := by
  intro es
  induction es with
  | nil => intro rest ps _ h _; exact ⟨[], ps, rfl, h, fun p hp => hp, fun i n txt h => by simp at h⟩
  | cons e es ih =>
    intro rest ps hties h hrows
    obtain ⟨n0, text0⟩ := e
    unfold errTies at hties
    simp only [List.all_cons, Bool.and_eq_true] at hties
    obtain ⟨ht0, hties'⟩ := hties
    obtain ⟨g, t, cs, fuel, p, q, hg, htt, hv, hd, hq, rfl⟩ := h
    rw [hg] at ht0
    simp only [beq_iff_eq] at ht0
    obtain rfl := Option.some.inj (ht0.symm.trans htt)
    obtain ⟨ms, hi⟩ := hT.hi
    obtain ⟨f, he, hft, hfo⟩ := hT.he
    obtain ⟨l0⟩ := cs
    have ok0 : ∀ u v, l0 = [.iface u v] → Value.okWide P W .any 0 u v := fun u v e => by
      subst e
      exact (hrows g 0 (by simp [MemPlace.row])).2 u v (by simpa using World.var?_cell hg hv 0)
    obtain ⟨a0, s0, rfl, hc0, hs0, hz0, rfl⟩ := errorString_of_trod hi hT.hrow hT.hp he hft hfo hT.hs hT.hc hT.hcs hd ok0
    obtain ⟨A, q', hA, hq', hsub, hall⟩ := ih rest q hties' hq (fun b off hm => hrows b off (List.mem_append_right _ hm))
    refine ⟨a0 :: A, q', by simp [hA], hq', fun p hp => List.mem_append_right _ (hsub p hp), fun i n txt hi' => ?_⟩
    cases i with
    | zero =>
      have he' : n0 = n ∧ text0 = txt := by simpa using hi'
      obtain ⟨rfl, rfl⟩ := he'
      exact ⟨a0, g, s0, rfl, hg, hv, hc0, hs0, (hrows a0.block a0.off (by simp [MemPlace.row])).1⟩
    | succ i =>
      obtain ⟨a, g, s, h1, h2⟩ := hall i n txt (by simpa using hi')
      exact ⟨a, g, s, by simpa using h1, h2⟩
theorem gerr_at {A : List Addr} {i : Nat} {n : String} {txt : List UInt8} {g tp : Nat}
    (h : ∃ (a : Addr) (g : Nat) (s : ByteArray), A[i]? = some a ∧ P.globalNamed n = some g ∧ W.var? P n = some #[.iface tp (.pointer (some a))] ∧ W.cell? a = some (.string s) ∧ s.data.toList = txt ∧ ∃ c t, W.heap[a.block]? = some (.cells c t (0, 0)))
    (hg : P.globalNamed n = some g) : GErr [allOf W] g (.iface tp (.pointer (some (A.getD i ⟨0, 0, none⟩)))) := by
  obtain ⟨a, g', s, hA, hg', hv, _⟩ := h
  have : A.getD i ⟨0, 0, none⟩ = a := by rw [List.getD_eq_getElem?_getD, hA]; rfl
  rw [this]
  exact ⟨gval_of_var hg hv, rfl, rfl⟩
theorem errAt_at {A : List Addr} {i : Nat} {n : String} {txt : List UInt8} {tp : Nat}
    (h : ∃ (a : Addr) (g : Nat) (s : ByteArray), A[i]? = some a ∧ P.globalNamed n = some g ∧ W.var? P n = some #[.iface tp (.pointer (some a))] ∧ W.cell? a = some (.string s) ∧ s.data.toList = txt ∧ ∃ c t, W.heap[a.block]? = some (.cells c t (0, 0))) :
    ErrAt [allOf W] tp (.iface tp (.pointer (some (A.getD i ⟨0, 0, none⟩)))) (A.getD i ⟨0, 0, none⟩) ∧ ∃ s : ByteArray, W.cell? (A.getD i ⟨0, 0, none⟩) = some (.string s) ∧ s.data.toList = txt := by
  obtain ⟨a, g', s, hA, hg', hv, hc, ht, c, t, hb⟩ := h
  have : A.getD i ⟨0, 0, none⟩ = a := by rw [List.getD_eq_getElem?_getD, hA]; rfl
  rw [this]
  exact ⟨⟨rfl, c, t, by simpa using allOf_mem hb⟩, s, hc, ht⟩
mutual
def flatD {H : Type} : DataW H → List Value
  | .lit (.int k z) => [.int k z]
  | .lit (.bool b) => [.bool b]
  | .lit (.string l) => [.string ⟨l.toArray⟩]
  | .lit (.float k b) => [.float k b]
  | .agg ps => flatAll ps
  | _ => []
def flatAll {H : Type} : List (DataW H) → List Value
  | [] => []
  | d :: r => flatD d ++ flatAll r
end
def contigF (P : Program) : List Field → Nat → Option Nat
  | [], o => some o
  | f :: fs, o => if f.offset = o then contigF P fs (o + P.cellsOf f.type) else none
def flatTy (P : Program) : Nat → TypeId → Bool
  | 0, _ => false
  | n + 1, t => match P.underlying t with
    | some .bool => true
    | some (.int _) => true
    | some .string => true
    | some (.float _) => true
    | some (.struct fs) => contigF P fs.toList 0 == some (P.cellsOf t) && fs.toList.all fun f => flatTy P n f.type
    | some (.array m e) => P.cellsOf t == m * P.cellsOf e && flatTy P n e
    | _ => false
theorem flatAll_append {H : Type} (a b : List (DataW H)) : flatAll (a ++ b) = flatAll a ++ flatAll b := by
  induction a with
  | nil => simp [flatAll]
  | cons x a ih => simp [flatAll, ih]
theorem contig_cells {H : Type} {cs : List Value} : ∀ (fs : List Field) (xs : List (DataW H × List MemPlace)) (o tot : Nat), contigF P fs o = some tot → tot ≤ cs.length → xs.length = fs.length →
    (∀ (i : Nat) (f : Field), fs[i]? = some f → ∃ x, xs[i]? = some x ∧ (cs.drop f.offset).take (P.cellsOf f.type) = flatD x.1) → o ≤ tot ∧ (cs.drop o).take (tot - o) = flatAll (xs.map (·.1)) := by
  intro fs
  induction fs with
  | nil =>
    intro xs o tot h _ hx _
    cases h
    have : xs = [] := List.eq_nil_of_length_eq_zero (by simpa using hx)
    subst this
    exact ⟨Nat.le_refl _, by simp [flatAll]⟩
  | cons f fs ih =>
    intro xs o tot h ht hx hall
    cases xs with
    | nil => simp at hx
    | cons x xs =>
      unfold contigF at h
      split at h
      · rename_i ho
        obtain ⟨x', hx', h0⟩ := hall 0 f rfl
        have : x = x' := by simpa using hx'
        subst this
        obtain ⟨h1, h2⟩ := ih xs _ tot h ht (by simpa using hx) (fun i g hg => by
          obtain ⟨y, hy, h3⟩ := hall (i + 1) g (by simpa using hg)
          exact ⟨y, by simpa using hy, h3⟩)
        refine ⟨by omega, ?_⟩
        simp only [List.map_cons, flatAll]
        rw [← h0, ← h2, ho, ← List.drop_drop]
        have e : tot - o = P.cellsOf f.type + (tot - (o + P.cellsOf f.type)) := by omega
        rw [e, List.take_add]
      · cases h
theorem flat_trod {H : Type} {enc : TypeId × Value → H} {sp : Nat → Bool} {held : Bool} {base : Nat} : ∀ (n : Nat) (t : TypeId) (fuel : Nat) (cs : List Value) (x : DataW H × List MemPlace), flatTy P n t = true →
    DataW.trod enc P W base sp held fuel t cs = some x → cs = flatD x.1 := by
  intro n
  induction n with
  | zero => intro t fuel cs x h; simp [flatTy] at h
  | succ n ih =>
    intro t fuel cs x h hd
    unfold flatTy at h
    split at h
    · rename_i hu
      obtain ⟨b, rfl, rfl⟩ := DataW.trod_bool hu hd
      rfl
    · rename_i hu
      obtain ⟨z, rfl, rfl, _⟩ := DataW.trod_int hu hd
      rfl
    · rename_i hu
      obtain ⟨s, rfl, rfl, _⟩ := DataW.trod_string hu hd
      simp [flatD]
    · rename_i k hu
      cases fuel with
      | zero => simp [DataW.trod] at hd
      | succ m =>
        unfold DataW.trod at hd
        rw [hu] at hd
        split at hd <;> simp_all
        obtain ⟨_, rfl⟩ := hd
        rfl
    · rename_i fs hu
      simp only [Bool.and_eq_true, beq_iff_eq, List.all_eq_true] at h
      obtain ⟨xs, m, _, rfl, hl, hlen, hf⟩ := DataW.trod_struct hu hd
      have := contig_cells (P := P) (cs := cs) fs.toList xs 0 _ h.1 (by omega) (by simpa using hlen) (fun i f hif => by
        have hif2 : fs[i]? = some f := by simpa using hif
        have h1 := hf i f hif2
        have hlt : i < xs.length := by have := (List.getElem?_eq_some_iff.1 hif).1; rw [hlen]; simpa using this
        rw [List.getElem?_eq_getElem hlt] at h1
        exact ⟨_, List.getElem?_eq_getElem hlt, ih _ _ _ _ (h.2 f (List.mem_of_getElem? hif)) h1⟩)
      rw [List.drop_zero, Nat.sub_zero, ← hl, List.take_length] at this
      simp only [flatD]
      exact this.2
    · rename_i m e hu
      simp only [Bool.and_eq_true, beq_iff_eq] at h
      obtain ⟨xs, q, _, rfl, hl, hlen, hf⟩ := DataW.trod_array hu hd
      have key : ∀ k, k ≤ m → (cs.take (k * P.cellsOf e)) = flatAll ((xs.take k).map (·.1)) := by
        intro k
        induction k with
        | zero => intro _; simp [flatAll]
        | succ k ihk =>
          intro hk
          have h1 := hf k (by omega)
          have hlt : k < xs.length := by omega
          rw [List.getElem?_eq_getElem hlt] at h1
          have h2 := ih _ _ _ _ h.2 h1
          rw [Nat.add_mul, Nat.one_mul, List.take_add, ihk (by omega), h2, List.take_succ_eq_append_getElem hlt, List.map_append, flatAll_append]
          simp [flatAll]
      have := key m (Nat.le_refl _)
      rw [← h.1, ← hl, List.take_length, ← hlen, List.take_length] at this
      simp only [flatD]
      exact this
    · cases h
theorem flat_get {α : Type} (f : α → List Value) (sz : Nat) (hsz : ∀ x, (f x).length = sz) : ∀ (l : List α) (i k : Nat) (x : α), l[i]? = some x → k < sz → ((l.map f).flatten)[i * sz + k]? = (f x)[k]? := by
  intro l
  induction l with
  | nil => intro i k x h; simp at h
  | cons a l ih =>
    intro i k x h hk
    cases i with
    | zero =>
      have : a = x := by simpa using h
      subst this
      simp only [List.map_cons, List.flatten_cons]
      rw [List.getElem?_append_left (by rw [hsz]; omega)]; simp
    | succ i =>
      simp only [List.map_cons, List.flatten_cons]
      rw [List.getElem?_append_right (by rw [hsz, Nat.add_mul]; omega), hsz]
      have e : (i + 1) * sz + k - sz = i * sz + k := by rw [Nat.add_mul]; omega
      rw [e]
      exact ih i k x (by simpa using h) hk
theorem flat_len {α : Type} (f : α → List Value) (sz : Nat) (hsz : ∀ x, (f x).length = sz) (l : List α) : ((l.map f).flatten).length = l.length * sz := by
  induction l with
  | nil => simp
  | cons a l ih => simp only [List.map_cons, List.flatten_cons, List.length_append, List.length_cons, ih, hsz, Nat.add_mul]; omega
theorem cell_block {a : Addr} {v : Value} (h : W.cell? a = some v) : a.spot = none ∧ ∃ C T fz, W.heap[a.block]? = some (.cells C T fz) ∧ C[a.off]? = some v := by
  have hs := World.cell?_spot h
  unfold World.cell? at h
  split at h
  · rename_i C T fz hb
    rw [hs] at h
    exact ⟨hs, C, T, fz, hb, by simpa using h⟩
  · cases h
theorem rd_slice {H : Type} {enc : TypeId × Value → H} {α : Type} {t e : TypeId} {fuel n c sz : Nat} {p : Option Addr} {x : DataW H × List MemPlace} (ht : P.underlying t = some (.slice e))
    (h : DataW.trod enc P W 0 (fun _ => true) true fuel t [.slice p n c] = some x) (f : α → List Value) (Ok : α → Prop) (hsz : P.cellsOf e = sz) (hpos : 0 < sz) (hf : ∀ y, (f y).length = sz)
    (hread : ∀ fuel cs y, DataW.trod enc P W 0 (fun _ => true) true fuel e cs = some y → ∃ z, cs = f z ∧ Ok z) :
    ∃ l : List α, l.length = n ∧ SlAt [allOf W] p ((l.map f).flatten) ∧ (∀ z ∈ l, Ok z) ∧ n ≤ 9223372036854775807 ∧ (n = 0 ∨ ∃ es sp, x.1 = .slice es sp ∧ es.length = n) := by
  rcases DataW.trod_slice ht h with ⟨h0, _⟩ | ⟨a, len, cap, elems, rest, m, _, hcs, hx, hb, hlc, hcm, hel, hE, _, _⟩
  · cases h0
    exact ⟨[], rfl, .inl rfl, fun z hz => (by simp at hz), by omega, .inl rfl⟩
  · cases hcs
    have hall : ∀ i : Fin n, ∃ z, W.cells? 0 (a.add (i.val * sz)) sz = some (f z) ∧ Ok z := by
      intro i
      have h1 := hE i.val i.isLt
      rw [List.getElem?_eq_getElem (by omega), hsz] at h1
      obtain ⟨cs, hc, hy⟩ := Option.bind_eq_some_iff.1 h1
      obtain ⟨z, rfl, hz⟩ := hread _ _ _ hy
      exact ⟨z, hc, hz⟩
    refine ⟨List.ofFn fun i => (hall i).choose, by simp, ?_, ?_, by unfold maxLen at hcm; omega, .inr ⟨_, _, by rw [hx], by simp [hel]⟩⟩
    · rcases Nat.eq_zero_or_pos n with h0 | hn
      · subst h0; exact .inl (by simp)
      · have hcell : ∀ i k, (hi : i < n) → k < sz → ∃ v, W.cell? ((a.add (i * sz)).add k) = some v ∧ (f (hall ⟨i, hi⟩).choose)[k]? = some v := by
          intro i k hi hk
          obtain ⟨_, hl, hc⟩ := World.cells?_some (hall ⟨i, hi⟩).choose_spec.1
          have h1 := hc k hk
          have h2 : k < (f (hall ⟨i, hi⟩).choose).length := by rw [hl]; exact hk
          rw [List.getElem?_eq_getElem h2] at h1 ⊢
          exact ⟨_, h1, rfl⟩
        obtain ⟨v0, hv0, _⟩ := hcell 0 0 hn hpos
        have hv0' : W.cell? a = some v0 := by simpa [Addr.add] using hv0
        obtain ⟨hs, C, T, fz, hblk, _⟩ := cell_block hv0'
        obtain ⟨b, off, spot⟩ := a
        simp only at hs hblk
        subst hs
        refine .inr ⟨b, off, C, T, fz, rfl, by simpa using allOf_mem hblk, fun j hj => ?_⟩
        rw [flat_len f sz hf, List.length_ofFn] at hj
        have hi : j / sz < n := by rw [Nat.div_lt_iff_lt_mul hpos]; exact hj
        have hk : j % sz < sz := Nat.mod_lt _ hpos
        obtain ⟨v, hv, hfv⟩ := hcell (j / sz) (j % sz) hi hk
        have hj2 : j / sz * sz + j % sz = j := by rw [Nat.mul_comm]; exact Nat.div_add_mod j sz
        rw [Addr.add_lit, Addr.add_lit, Nat.add_assoc, hj2] at hv
        have h3 : C[off + j]? = some v := by
          unfold World.cell? at hv
          rw [hblk] at hv
          simpa using hv
        have h4 := flat_get f sz hf (List.ofFn fun i => (hall i).choose) (j / sz) (j % sz) (hall ⟨j / sz, hi⟩).choose (by simp [hi]) hk
        rw [hj2] at h4
        rw [h3, h4, hfv]
    · intro z hz
      obtain ⟨i, rfl⟩ := List.mem_ofFn.1 hz
      exact (hall i).choose_spec.2
def fieldTy (P : Program) (t i : Nat) : Option (TypeId × Nat × Nat) :=
  match P.underlying t with
  | some (.struct fs) => (fs[i]?).map fun f => (f.type, f.offset, P.cellsOf f.type)
  | _ => none
theorem rd_field {H : Type} {enc : TypeId × Value → H} {sp : Nat → Bool} {held : Bool} {base : Nat} {t u : TypeId} {i fuel off n : Nat} {cs : List Value} {x : DataW H × List MemPlace} (h : DataW.trod enc P W base sp held fuel t cs = some x)
    (hf : fieldTy P t i = some (u, off, n)) : ∃ m y ds, DataW.trod enc P W base sp held m u ((cs.drop off).take n) = some y ∧ x.1 = .agg ds ∧ ds[i]? = some y.1 ∧ cs.length = P.cellsOf t := by
  unfold fieldTy at hf
  split at hf
  · rename_i fs hu
    obtain ⟨f, hfi, he⟩ := Option.map_eq_some_iff.1 hf
    cases he
    obtain ⟨xs, m, _, rfl, hl, hlen, hall⟩ := DataW.trod_struct hu h
    have h1 := hall i f hfi
    have hlt : i < xs.length := by
      have := (Array.getElem?_eq_some_iff.1 hfi).1
      omega
    rw [List.getElem?_eq_getElem hlt] at h1
    exact ⟨m, xs[i], _, h1, rfl, by simp [hlt], hl⟩
  · cases hf
theorem rd_int {H : Type} {enc : TypeId × Value → H} {sp : Nat → Bool} {held : Bool} {base : Nat} {t : TypeId} {k : IntKind} {fuel : Nat} {c : Value} {x : DataW H × List MemPlace} (hk : P.underlying t = some (.int k))
    (h : DataW.trod enc P W base sp held fuel t [c] = some x) : ∃ z, c = .int k z ∧ (Lit.int k z).wf = true := by
  obtain ⟨z, hc, _, hw⟩ := DataW.trod_int hk h
  exact ⟨z, by simpa using hc, hw⟩
def errTypeB (P : Program) (ti tp te ts : TypeId) : Bool :=
  (match P.underlying ti with | some (.interface _) => true | _ => false) && (match P.underlying tp with | some (.pointer e) => e == te | _ => false) &&
  (match P.underlying te with | some (.struct fs) => (match fs.toList with | [f] => f.type == ts && f.offset == 0 | _ => false) | _ => false) &&
  (match P.underlying ts with | some .string => true | _ => false) && P.cellsOf te == 1 && P.cellsOf ts == 1
theorem ErrType.of {T : String} {ti tp te ts : TypeId} (h : errTypeB P ti tp te ts = true) (hrow : ∀ u, P.typeName? 3 u = some T → u = tp) : ErrType P T ti tp te ts := by
  unfold errTypeB at h
  simp only [Bool.and_eq_true, beq_iff_eq] at h
  obtain ⟨⟨⟨⟨⟨h1, h2⟩, h3⟩, h4⟩, h5⟩, h6⟩ := h
  refine ⟨?_, hrow, ?_, ?_, ?_, h5, h6⟩
  · split at h1
    · exact ⟨_, by assumption⟩
    · cases h1
  · split at h2
    · rename_i e hu; rw [hu]; congr 2; simpa using h2
    · cases h2
  · split at h3
    · rename_i fs hu
      split at h3
      · rename_i f hf
        simp only [Bool.and_eq_true, beq_iff_eq] at h3
        exact ⟨f, by rw [hu]; congr 2; apply Array.ext'; simpa using hf, h3.1, h3.2⟩
      · cases h3
    · cases h3
  · split at h4
    · assumption
    · cases h4
theorem trodAll_below {H : Type} {enc : TypeId × Value → H} (hl : laidOutB P = true) {W' : World} (hb : Below W.heap.size W W') : ∀ (ts : List TypeId) (vs : List Value) (ds : List (DataW H)) (ps : List MemPlace),
    (ts.all fun t => P.readableRec t && decide (t < P.types.size)) = true → DataW.TrodAll enc P W 0 (fun _ => true) true ts vs ds ps → (∀ x ∈ ps, x.block < W.heap.size) → DataW.TrodAll enc P W' 0 (fun b => decide (b < W.heap.size)) true ts vs ds ps := by
  intro ts
  induction ts with
  | nil => intro vs ds ps _ h _; obtain ⟨rfl, rfl, rfl⟩ := trodAll_nil h; exact trodAll_mk0
  | cons t ts ih =>
    intro vs ds ps ha h hlt
    obtain ⟨v, vs', d, ds', p, q, rfl, rfl, rfl, hd, hr⟩ := trodAll_cons h
    simp only [List.all_cons, Bool.and_eq_true, decide_eq_true_eq] at ha
    exact ⟨p, q, Below.trod hl ha.1.1 ha.1.2 hd hb (fun x hx => hlt x (List.mem_append_left _ hx)), ih _ _ _ ha.2 hr (fun x hx => hlt x (List.mem_append_right _ hx)), rfl⟩
theorem post_true {H : Type} {enc : TypeId × Value → H} {f : Func} {s : ChangeSpec} {args : Array Value} {ds gs : List (DataW H)} {before : List MemPlace} {W' : World} {tb : TypeId} (hl : laidOutB P = true) (hb : Below W.heap.size W W')
    (hpar : (f.params.toList.all fun t => P.readableRec t && decide (t < P.types.size)) = true) (hrt : f.resultTypes = #[tb]) (htb : P.underlying tb = some .bool) (hv : s.vars = [])
    (hW : DataW.Whole enc P f.params.toList s.vars false W args.toList ds gs before) (hfn : s.fn H ds = { results := [.lit (.bool true)], args := ds }) : s.post enc P f false true false false W args (.bool true) W' := by
  have hlt := hW.lt
  have hW' := hW
  obtain ⟨p, q, hA, hV, rfl, _, _⟩ := hW
  rw [hv] at hV
  obtain ⟨rfl, rfl⟩ := trodVars_none hV
  refine ⟨ds, [], _, [], p, [], hW', ?_, ?_, ?_, hb.frame _, fun h => (by cases h)⟩
  · rw [List.append_nil, hfn, hrt]
    exact trodAll_mk1 ⟨1, by simp [DataW.trod, Value.cells, htb]⟩
  · rw [List.append_nil, hfn]
    exact trodAll_below hl hb _ _ _ _ hpar hA (fun x hx => hlt x (List.mem_append_left _ hx))
  · rw [List.append_nil, hfn, hv]; rfl
theorem calls_true {H : Type} {enc : TypeId × Value → H} {g : FuncId} {f : Func} {s : ChangeSpec} {l : List Value} {ds gs : List (DataW H)} {before : List MemPlace} {tb : TypeId} (hl : laidOutB P = true)
    (hR : Ret P g l W fun v w' => v = .bool true ∧ Hp W w' [allOf W])
    (hpar : (f.params.toList.all fun t => P.readableRec t && decide (t < P.types.size)) = true) (hrt : f.resultTypes = #[tb]) (htb : P.underlying tb = some .bool) (hv : s.vars = [])
    (hW : DataW.Whole enc P f.params.toList s.vars false W l.toArray.toList ds gs before) (hfn : s.fn H ds = { results := [.lit (.bool true)], args := ds }) :
    Calls P g l.toArray W fun e W' => ∃ v, e = .returned v ∧ s.post enc P f false true false false W l.toArray v W' :=
  Calls.mono hR fun e W' h => by
    obtain ⟨v, rfl, rfl, hH⟩ := h
    exact ⟨_, rfl, post_true hl (hH.below (i := 0) rfl) hpar hrt htb hv hW hfn⟩
end
end Go.Eng
namespace Go.Eng
open Go
variable {D : List Deferred}
section
variable {P : Program} {ρ : Operand → Value} {w w0 : World} {L : List Seg} {d : Option Tmp} {ty : TypeId} {pos : String} {af : Array Edge} {g : Option (Nat × Bool)} {x y : Operand}
theorem RX.feq {t t' : TypeId} {k : FloatKind} {a b : Nat} (hx : ρ x = .float k a) (hy : ρ y = .float k b) : Runs P ρ ⟨d, .binOp .eql t x y t', ty, pos, af, g⟩ w (.bool (k.format.order a b == some .eq)) := by
  unfold Runs
  simp [execOp, hx, hy, eqGuard_at_float, binOp, Op.floatCmp]
theorem RX.fne {t t' : TypeId} {k : FloatKind} {a b : Nat} (hx : ρ x = .float k a) (hy : ρ y = .float k b) : Runs P ρ ⟨d, .binOp .neq t x y t', ty, pos, af, g⟩ w (.bool (k.format.order a b != some .eq)) := by
  unfold Runs
  simp [execOp, hx, hy, eqGuard_at_float, binOp, Op.floatCmp]
def ExtIs (P : Program) (f : FuncId) (e : Array Value → Sem Value) : Prop :=
  ∃ fn, P.funcs[f]? = some fn ∧ (fn.name == "runtime.NumGoroutine") = false ∧ fn.body.isNone = true ∧ Extern.findNext fn = none ∧ Extern.find fn = some e
theorem RX.ext {f : FuncId} {as9 : List Operand} {ats : Array TypeId} {l : List Value} {e : Array Value → Sem Value} {v : Value} (he : ExtIs P f e) (hρ : ρ (.func f) = .func (.func f) #[] #[]) (ha : as9.map ρ = l) (hv : (e l.toArray).run P w = .ok v w) :
    Runs P ρ ⟨d, .call { callee := .value (.func f), args := as9.toArray, argTypes := ats }, ty, pos, af, g⟩ w v := by
  obtain ⟨fn, h1, h2, h3, h4, h5⟩ := he
  unfold Runs
  rw [run_enter ha, hρ]
  simp [Deferred.ofValue, invoke, run_callFunc_extern h1 h2 h3 h4 h5, hv]
theorem RX.real {k : FloatKind} {a b : Nat} {ats : Array TypeId} (hx : ρ x = .complex k a b) : Runs P ρ ⟨d, .call { callee := .builtin .real, args := #[x], argTypes := ats }, ty, pos, af, g⟩ w (.float k a) := by
  unfold Runs
  have h1 : ∀ u v, Builtin.real_ u v #[.complex k a b] = pure (.float k a) := fun _ _ => rfl
  simp [execOp, hx, resolve, invoke, builtin, h1]
theorem RX.imag {k : FloatKind} {a b : Nat} {ats : Array TypeId} (hx : ρ x = .complex k a b) : Runs P ρ ⟨d, .call { callee := .builtin .imag, args := #[x], argTypes := ats }, ty, pos, af, g⟩ w (.float k b) := by
  unfold Runs
  have h1 : ∀ u v, Builtin.imag_ u v #[.complex k a b] = pure (.float k b) := fun _ _ => rfl
  simp [execOp, hx, resolve, invoke, builtin, h1]
theorem RX.complex {k : FloatKind} {a b : Nat} {ats : Array TypeId} (hx : ρ x = .float k a) (hy : ρ y = .float k b) : Runs P ρ ⟨d, .call { callee := .builtin .complex, args := #[x, y], argTypes := ats }, ty, pos, af, g⟩ w (.complex k a b) := by
  unfold Runs
  have h1 : ∀ u v, Builtin.complex_ u v #[.float k a, .float k b] = pure (.complex k a b) := fun _ _ => by
    show (if k = k then pure (Value.complex k a b) else _) = _
    rw [if_pos rfl]
  simp [execOp, hx, hy, resolve, invoke, builtin, h1]
theorem RX.ceq {t t' : TypeId} {k : FloatKind} {a b c e : Nat} (hx : ρ x = .complex k a b) (hy : ρ y = .complex k c e) :
    Runs P ρ ⟨d, .binOp .eql t x y t', ty, pos, af, g⟩ w (.bool ((k.format.order a c == some .eq) && (k.format.order b e == some .eq))) := by
  unfold Runs
  have h1 : ∀ u v, (Op.Complex.cmp .eql k u v).run P w = .ok (k.format.order u v == some .eq) w := fun u v => rfl
  simp [execOp, hx, hy, eqGuard_at_complex, binOp, Op.complexOp, h1]
end
end Go.Eng
namespace Go.Eng
open Go
variable {D : List Deferred}
section
variable {P : Program} {w w0 : World} {L : List Seg} {A A' s s' : Seg} {i j : Nat}
theorem set_nil_perm : ∀ {L : List Seg} {i : Nat} {s s' : Seg}, i < L.length → L[i]? = some s → (s' :: L.set i []).flatten.Perm (L.set i s').flatten
  | t :: L, 0, s, s', _, _ => by simp
  | t :: L, i + 1, s, s', hi, h => by
    have ih := set_nil_perm (L := L) (i := i) (s := s) (s' := s') (by simpa using hi) (by simpa using h)
    simp only [List.set_cons_succ, List.flatten_cons] at ih ⊢
    refine List.Perm.trans ?_ (ih.append_left t)
    rw [← List.append_assoc, ← List.append_assoc]
    exact List.Perm.append_right _ List.perm_append_comm
theorem getE_lt {α : Type} {l : List α} {i : Nat} {a : α} (h : l[i]? = some a) : i < l.length := (List.getElem?_eq_some_iff.1 h).1
theorem set_self {α : Type} {l : List α} {i : Nat} {a : α} (h : l[i]? = some a) : l.set i a = l := by
  have hi := getE_lt h
  rw [List.getElem?_eq_getElem hi] at h
  cases h
  exact List.set_getElem_self hi
theorem Hp.out (h : Hp w0 w L) (hi : L[i]? = some s) : Hp w0 w (s :: L.set i []) := by
  have := set_nil_perm (s' := s) (getE_lt hi) hi
  rw [set_self hi] at this
  exact perm_of_flatten h this.symm
theorem Hp.back (h : Hp w0 w (s' :: L.set i [])) (hi : L[i]? = some s) : Hp w0 w (L.set i s') := perm_of_flatten h (set_nil_perm (getE_lt hi) hi)
end
end Go.Eng
