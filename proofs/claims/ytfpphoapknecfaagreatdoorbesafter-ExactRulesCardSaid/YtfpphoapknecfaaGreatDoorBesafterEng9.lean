/- General rules for stepping through a function: no program stands in them. -/
import Derived.Test.YtfpphoapknecfaaGreatDoorBesafterEng8
import Derived.Laws.Externs
import Derived.Deep.AppendSrc
namespace Go.Eng
open Go
variable {D : List Deferred}

section
variable {P : Program} {ρ : Operand → Value} {w w0 : World} {L : List Seg} {d : Option Tmp} {ty : TypeId} {pos : String} {af : Array Edge} {g : Option (Nat × Bool)} {x y : Operand}

theorem RX.feq {t t' : TypeId} {k : FloatKind} {a b : Nat} (hx : ρ x = .float k a) (hy : ρ y = .float k b) : Runs P ρ ⟨d, .binOp .eql t x y t', ty, pos, af, g⟩ w (.bool (k.format.order a b == some .eq)) := by
  unfold Runs
  simp [execOp, hx, hy, eqGuard_at_float, binOp, Op.floatCmp]
theorem RX.fne {t t' : TypeId} {k : FloatKind} {a b : Nat} (hx : ρ x = .float k a) (hy : ρ y = .float k b) : Runs P ρ ⟨d, .binOp .neq t x y t', ty, pos, af, g⟩ w (.bool (k.format.order a b != some .eq)) := by
  unfold Runs
  simp [execOp, hx, hy, eqGuard_at_float, binOp, Op.floatCmp]
/-- A function that the model answers itself. -/
def ExtIs (P : Program) (f : FuncId) (e : Array Value → Sem Value) : Prop :=
  ∃ fn, P.funcs[f]? = some fn ∧ (fn.name == "runtime.NumGoroutine") = false ∧ fn.body.isNone = true ∧ Extern.findNext fn = none ∧ Extern.find fn = some e
theorem RX.ext {f : FuncId} {as : List Operand} {ats : Array TypeId} {l : List Value} {e : Array Value → Sem Value} {v : Value} (he : ExtIs P f e) (hρ : ρ (.func f) = .func (.func f) #[] #[]) (ha : as.map ρ = l) (hv : (e l.toArray).run P w = .ok v w) :
    Runs P ρ ⟨d, .call { callee := .value (.func f), args := as.toArray, argTypes := ats }, ty, pos, af, g⟩ w v := by
  obtain ⟨fn, h1, h2, h3, h4, h5⟩ := he
  unfold Runs
  rw [run_enter ha, hρ]
  simp [Deferred.ofValue, invoke, run_callFunc_extern h1 h2 h3 h4 h5, hv]
theorem RX.real {k : FloatKind} {a b : Nat} {ats : Array TypeId} (hx : ρ x = .complex k a b) : Runs P ρ ⟨d, .call { callee := .builtin .real, args := #[x], argTypes := ats }, ty, pos, af, g⟩ w (.float k a) := by
  unfold Runs
  have h1 : ∀ u v, Builtin.real_ u v #[.complex k a b] = pure (.float k a) := fun _ _ => rfl
  simp [execOp, hx, resolve, invoke, builtin, h1]
theorem RX.imag {k : FloatKind} {a b : Nat} {ats : Array TypeId} (hx : ρ x = .complex k a b) : Runs P ρ ⟨d, .call { callee := .builtin .imag, args := #[x], argTypes := ats }, ty, pos, af, g⟩ w (.float k b) := by
  unfold Runs
  have h1 : ∀ u v, Builtin.imag_ u v #[.complex k a b] = pure (.float k b) := fun _ _ => rfl
  simp [execOp, hx, resolve, invoke, builtin, h1]
theorem RX.complex {k : FloatKind} {a b : Nat} {ats : Array TypeId} (hx : ρ x = .float k a) (hy : ρ y = .float k b) : Runs P ρ ⟨d, .call { callee := .builtin .complex, args := #[x, y], argTypes := ats }, ty, pos, af, g⟩ w (.complex k a b) := by
  unfold Runs
  have h1 : ∀ u v, Builtin.complex_ u v #[.float k a, .float k b] = pure (.complex k a b) := fun _ _ => by
    show (if k = k then pure (Value.complex k a b) else _) = _
    rw [if_pos rfl]
  simp [execOp, hx, hy, resolve, invoke, builtin, h1]
theorem RX.cne {t t' : TypeId} {k : FloatKind} {a b c e : Nat} (hx : ρ x = .complex k a b) (hy : ρ y = .complex k c e) :
    Runs P ρ ⟨d, .binOp .neq t x y t', ty, pos, af, g⟩ w (.bool !((k.format.order a c == some .eq) && (k.format.order b e == some .eq))) := by
  unfold Runs
  have h1 : ∀ u v, (Op.Complex.cmp .eql k u v).run P w = .ok (k.format.order u v == some .eq) w := fun u v => rfl
  simp [execOp, hx, hy, eqGuard_at_complex, binOp, Op.complexOp, h1]
theorem RX.ceq {t t' : TypeId} {k : FloatKind} {a b c e : Nat} (hx : ρ x = .complex k a b) (hy : ρ y = .complex k c e) :
    Runs P ρ ⟨d, .binOp .eql t x y t', ty, pos, af, g⟩ w (.bool ((k.format.order a c == some .eq) && (k.format.order b e == some .eq))) := by
  unfold Runs
  have h1 : ∀ u v, (Op.Complex.cmp .eql k u v).run P w = .ok (k.format.order u v == some .eq) w := fun u v => rfl
  simp [execOp, hx, hy, eqGuard_at_complex, binOp, Op.complexOp, h1]
theorem Op.floatToFloat_run {s k : FloatKind} {b : Nat} {r : Nat} (h : (Conv.floatToFloat s b k).run P w = .ok (.float k r) w) {src dst : TypeId} {u : TypeDesc} (hs : P.underlying src = some u) (hd : P.underlying dst = some (.float k)) (hx : ρ x = .float s b) :
    Runs P ρ ⟨d, .convert src dst x, ty, pos, af, g⟩ w (.float k r) := by
  unfold Runs
  simp [execOp, hx, convert, run_underlying hs, run_underlying hd, h]
/-- append of a text's bytes to a slice of the call's own. -/
theorem EX.appendStr {t e tx i n cap : Nat} {pa : Option Addr} {xs : List Value} {s : Seg} {str : ByteArray} {L' : Seg → List Seg} (H : Hp w0 w L) (he : Elem P t e 1 1) (hstr : P.underlying tx = some .string)
    (hx : ρ x = .slice pa n cap) (hy : ρ y = .string str) (hi : L[i]? = some s) (ho : OwnSl e 1 pa n cap xs s) (hb : n + str.size ≤ 140737488355328) (hL : ∀ s', L.set i s' = L' s') :
    Does P ρ ⟨d, .call { callee := .builtin .append, args := #[x, y], argTypes := #[t, tx] }, ty, pos, af, g⟩ w fun u w' =>
      ∃ pa' cap' s', u = .slice pa' (n + str.size) cap' ∧ OwnSl e 1 pa' (n + str.size) cap' (xs ++ byteCells str) s' ∧ Hp w0 w' (L' s') := by
  obtain ⟨hu, inf, z, hinf, hz, hsize, hbytes, hzs⟩ := he
  have hexec : ∀ u w', (Builtin.append_ #[t, tx] ty #[.slice pa n cap, .string str]).run P w = .ok u w' →
      (execOp ρ ⟨d, .call { callee := .builtin .append, args := #[x, y], argTypes := #[t, tx] }, ty, pos, af, g⟩).run P w = .ok (.value u) w' := by
    intro u w' h
    simp only [execOp, resolve, invoke, builtin, Sem.run_bind, Sem.run_pure, Result.andThen_ok, List.map_toArray, List.map_cons, List.map_nil, hx, hy, h]
  have hset : ∀ s', L.set i s' = L' s' := hL
  have hreplace : ∀ (w' : World) (b : Nat) (o : Obj), Hp w0 w' ([(b, o)] :: L) → Hp w0 w' (L' [(b, o)]) := by
    intro w' b o h
    rw [← hset]
    have h2 := h.pull (i + 1) (s := s) (by simpa using hi)
    simp only [List.eraseIdx_cons_succ] at h2
    have h3 := h2.drop
    refine perm_of_flatten h3 ?_
    have h4 : (L.set i [(b, o)])[i]? = some [(b, o)] := by
      rw [List.getElem?_set_self]; exact (List.getElem?_eq_some_iff.1 hi).1
    have h5 := get_perm h4
    rw [List.eraseIdx_set_eq] at h5
    exact h5.symm
  have hbl := byteCells_length str
  have hcell : ∀ v ∈ byteCells str, isCell v = true := by
    intro v hv
    obtain ⟨b, _, rfl⟩ := List.mem_map.1 hv
    rfl
  have hsrc := Src.ofString (P := P) w hstr str
  have hdrew : ∀ o, Hp w0 (w.drew.alloc o) ([(w.heap.size, o)] :: L) := fun o => (H.same (w' := w.drew) ⟨rfl, rfl, rfl, rfl⟩).alloc o
  have hcapge : ∀ old, n + str.size ≤ grownCap w (n + str.size) old e := fun old => grownCap_ge w (n + str.size) old e
  have hzc : ∀ old, (Builtin.zeroCells z.cells (grownCap w (n + str.size) old e - (n + str.size))).size = grownCap w (n + str.size) old e - (n + str.size) := fun old => by rw [len_zeroCells, hzs, Nat.mul_one]
  have hgrow : ∀ (base : Option Addr) (olds : List Value), pa = base → (Builtin.firstCells inf.size n (.slice base n cap)).run P w.drew = .ok olds.toArray w.drew → olds = xs → cap < n + str.size →
      Does P ρ ⟨d, .call { callee := .builtin .append, args := #[x, y], argTypes := #[t, tx] }, ty, pos, af, g⟩ w fun u w' =>
      ∃ pa' cap' s', u = .slice pa' (n + str.size) cap' ∧ OwnSl e 1 pa' (n + str.size) cap' (xs ++ byteCells str) s' ∧ Hp w0 w' (L' s') := by
    intro base olds hpa hold hxs hlt
    subst hpa hxs
    have hr := run_append_grow_src (P := P) w t tx ty e inf z hu hinf hz pa n cap olds hold (.string str) str.size (byteCells str) (by rw [hsize]; exact hsrc) hlt (by omega) (growslice_fits hlt (by rw [hbytes]; omega))
    refine Does.of_run (hexec _ _ hr) ⟨_, _, [(w.heap.size, cel (olds ++ byteCells str ++ (Builtin.zeroCells z.cells (grownCap w (n + str.size) cap e - (n + str.size))).toList) e)], rfl,
      ⟨by rw [List.length_append, ho.1, hbl]; omega, .inr ⟨_, _, rfl, rfl, hcapge cap, ?_, ?_⟩⟩, ?_⟩
    · have := hcapge cap
      have h1 := ho.1
      simp only [List.length_append, Array.length_toList, hzc, hbl]; omega
    · exact List.take_left
    · have h5 := hreplace _ _ _ (hdrew (.cells ((olds ++ byteCells str).toArray ++ Builtin.zeroCells z.cells (grownCap w (n + str.size) cap e - (n + str.size))) e))
      have h6 : cel (olds ++ byteCells str ++ (Builtin.zeroCells z.cells (grownCap w (n + str.size) cap e - (n + str.size))).toList) e = .cells ((olds ++ byteCells str).toArray ++ Builtin.zeroCells z.cells (grownCap w (n + str.size) cap e - (n + str.size))) e := by
        unfold cel; congr 1; apply Array.ext'; simp
      rw [h6]; exact h5
  by_cases hroom : n + str.size ≤ cap
  · have ho' := ho
    obtain ⟨hlen, ⟨rfl, rfl, rfl, rfl⟩ | ⟨gb, l, rfl, rfl, hnc, hlc, htk⟩⟩ := ho
    · have h0 : str.size = 0 := by omega
      have hbc : byteCells str = [] := List.eq_nil_of_length_eq_zero (by rw [hbl]; exact h0)
      refine Does.of_run (v := .slice none (0 + str.size) 0) (w' := w) (hexec _ _ ?_) ⟨none, 0, [], rfl, ?_, ?_⟩
      · have hle : (0 : Nat) + str.size ≤ 0 := by omega
        have hfc : (Builtin.firstCells inf.size str.size (.string str)).run P w = .ok (byteCells str).toArray w := by rw [hsize]; exact firstCells_string str w
        rw [h0, hbc, hsize] at hfc
        simp [Builtin.append_, run_underlying hu, run_underlying hstr, sizeOf, typeInfo, hinf, Builtin.lenOf, h0, hsize, hfc, storeCells]
      · rw [h0, hbc, List.append_nil]; exact ho'
      · rw [← hset]
        have : L.set i [] = L := by
          apply List.ext_getElem?; intro j
          rw [List.getElem?_set]
          split
          · rename_i hij; subst hij; split
            · exact hi.symm
            · rename_i h; exact absurd (List.getElem?_eq_some_iff.1 hi).1 h
          · rfl
        rw [this]; exact H
    · simp only [Nat.mul_one] at hlen hlc
      obtain ⟨w', hr, H'⟩ := setCells_run (P := P) (T := e) (b := gb) (byteCells str) l w L n 0 H hi hcell (by rw [hbl]; omega)
      refine Does.of_run (v := .slice (some ⟨gb, 0, none⟩) (n + str.size) cap) (w' := w') (hexec _ _ ?_) ⟨_, cap, [(gb, cel (setN l n (byteCells str)) e)], rfl, ⟨by rw [List.length_append, hlen, hbl]; omega, .inr ⟨gb, _, rfl, rfl, hroom, by rw [setN_len, hlc]; omega, ?_⟩⟩, ?_⟩
      · have hfc : (Builtin.firstCells inf.size str.size (.string str)).run P w = .ok (byteCells str).toArray w := by rw [hsize]; exact firstCells_string str w
        rw [hsize] at hfc
        simp [Builtin.append_, run_underlying hu, run_underlying hstr, sizeOf, typeInfo, hinf, Builtin.lenOf, hroom, hfc, Addr.add_lit, hsize, hr]
      · rw [setN_take]
        have h2 : setN (l.take (xs ++ byteCells str).length) n (byteCells str) = xs ++ byteCells str := by
          have h3 : l.take (xs ++ byteCells str).length = xs ++ (l.drop xs.length).take (byteCells str).length := by
            rw [List.length_append, List.take_add, htk]
          rw [h3, ← hlen]
          exact setN_pre _ _ _ (by rw [List.length_take, List.length_drop, hbl]; omega)
        exact h2
      · rw [← hset]; simpa using H'
  · have ho' := ho
    obtain ⟨hlen, ⟨rfl, rfl, rfl, rfl⟩ | ⟨gb, l, rfl, rfl, hnc, hlc, htk⟩⟩ := ho
    · have hxs : xs = [] := List.eq_nil_of_length_eq_zero (by simpa using hlen)
      exact hgrow none [] rfl (by simp [Builtin.firstCells]) hxs.symm (by omega)
    · refine hgrow _ xs rfl ?_ rfl (by omega)
      have holds : ∀ j v, xs[j]? = some v → w.drew.cell? ((⟨gb, 0, none⟩ : Addr).add j) = some v := by
        intro j v hj
        have := H.cell hi (0 + j)
        rw [Addr.add_lit]
        show w.cell? _ = _
        rw [this]
        obtain ⟨hlt, _⟩ := List.getElem?_eq_some_iff.1 hj
        rw [← htk, List.getElem?_take, if_pos hlt] at hj
        simpa using hj
      exact run_firstCells_some w.drew inf.size n _ n cap xs (by rw [hsize]; exact hlen) holds
end

/-- A word is no NaN if, and only if, it is equal to itself. -/
theorem order_self (f : Ieee.Format) (b : Nat) : (f.order b b == some .eq) = decide (¬ f.infRung < b % f.signWeight ∨ b % f.signWeight < f.binade) := by
  unfold Ieee.Format.order Ieee.Format.read
  simp only
  split
  · rename_i h
    rw [decide_eq_true (.inr h)]
    simp [Ieee.Datum.order]
  · rename_i h1
    split
    · rename_i h
      rw [decide_eq_true (.inl (by omega))]
      simp [Ieee.Datum.order]
    · rename_i h2
      split
      · rename_i h
        rw [decide_eq_true (.inl (by omega))]
        simp [Ieee.Datum.order]
      · rename_i h3
        rw [decide_eq_false (by omega)]
        simp [Ieee.Datum.order]
end Go.Eng
