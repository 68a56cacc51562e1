/- General rules for stepping through a function: no program stands in them. -/
import Derived.Test.YtfpphoapknecfaaGreatDoorBesafterEng21
import Derived.Conc.MuLone
import Derived.Laws.Small
import Derived.Laws.MakeOwn
namespace Go.Eng
open Go
variable {D : List Deferred}

section
variable {P : Program} {w w0 : World} {L : List Seg}
/-! A lock that is free is taken; what is deferred gives it back. -/
open Go.Conc.Locks in
theorem lock_r {M : MuLink} (HM : MuLib P M) {b o i T : Nat} {l : List Value} (H : Hp w0 w L) (hi : L[i]? = some [(b, cel l T)]) (hv : l[o]? = some (.int .i32 0)) :
    Ret P M.lock [.pointer (some ⟨b, o, none⟩)] w fun v w' => v = .tuple #[] ∧ Hp w0 w' (L.set i [(b, cel (l.set o (.int .i32 1)) T)]) :=
  (Go.MuLone.lock_free HM ⟨b, o, none⟩ w (by rw [H.cell hi, hv]) (H.frozen hi o)).mono fun e w' ⟨he, hw⟩ => ⟨_, he, rfl, by rw [hw]; exact H.setCell hi o _⟩
open Go.Conc.Locks in
theorem leaves_unlock {M : MuLink} (HM : MuLib P M) {fn : Func} {tmps : Array Value} {R : Ending → World → Prop} {b o i T : Nat} {l : List Value} (H : Hp w0 w L) (hi : L[i]? = some [(b, cel l T)]) (hv : l[o]? = some (.int .i32 1))
    (h : ∀ w', Hp w0 w' (L.set i [(b, cel (l.set o (.int .i32 0)) T)]) → ∃ v, (results fn tmps).run P w' = .ok v w' ∧ R (.returned v) w') :
    Leaves P fn tmps R [{ target := .fn (.func M.unlock) #[], args := #[.pointer (some ⟨b, o, none⟩)] }] .returning w := by
  refine leaves_cons (f := M.unlock) (args := #[.pointer (some ⟨b, o, none⟩)]) (by simp) ?_ ?_
  · have hr := Go.MuLone.run_callFunc_enter (P := P) HM.f_unlock (by kernel_rfl) rfl #[.pointer (some ⟨b, o, none⟩)] w
    simp only [invoke]
    simpa using hr
  · refine (Go.MuLone.unlock_deferred HM ⟨b, o, none⟩ .returning w (by rw [H.cell hi, hv]) (H.frozen hi o)).mono ?_
    rintro e u' w'' ⟨rfl, rfl, rfl⟩
    obtain ⟨v, h1, h2⟩ := h _ (H.setCell hi o (.int .i32 0))
    exact ⟨v, h1, h2⟩
end

/-! Maps whose keys are whole numbers. -/
structure MEn where
  key : Int
  val : Value
  born : Nat
def MEn.en (e : MEn) : MapEntry := { key := .int .i64 e.key, val := e.val, born := e.born }
def mapO (l : List MEn) (c : Nat) : Obj := .map (l.map MEn.en).toArray c
def lookE (l : List MEn) (k : Int) : Option MEn := l.find? fun e => e.key == k
theorem look_split (l : List MEn) (k : Int) : ((∀ e ∈ l, e.key ≠ k) ∧ lookE l k = none) ∨ ∃ l1 e l2, l = l1 ++ e :: l2 ∧ (∀ x ∈ l1, x.key ≠ k) ∧ e.key = k ∧ lookE l k = some e := by
  induction l with
  | nil => exact .inl ⟨fun _ h => (by cases h), rfl⟩
  | cons a l ih =>
    by_cases ha : a.key = k
    · exact .inr ⟨[], a, l, rfl, fun _ h => (by cases h), ha, by simp [lookE, ha]⟩
    · rcases ih with ⟨h1, h2⟩ | ⟨l1, e, l2, rfl, h1, h2, h3⟩
      · refine .inl ⟨fun e he => ?_, by simpa [lookE, ha] using h2⟩
        rcases List.mem_cons.1 he with rfl | he
        · exact ha
        · exact h1 e he
      · refine .inr ⟨a :: l1, e, l2, rfl, fun x hx => ?_, h2, by simpa [lookE, ha] using h3⟩
        rcases List.mem_cons.1 hx with rfl | hx
        · exact ha
        · exact h1 x hx
theorem now_none (k : Int) : ∀ (l : List MEn) (i : Nat), (∀ e ∈ l, e.key ≠ k) → Instr.findNow (.int .i64) (.int .i64 k) (l.map MEn.en) i = some none
  | [], _, _ => rfl
  | e :: l, i, h => by
    have he := h e (List.mem_cons_self ..)
    have hb : (k == e.key) = false := by simpa using fun h => he h.symm
    simp only [List.map_cons, Instr.findNow, MEn.en, Instr.sameNow, if_true, hb]
    exact now_none k l (i + 1) fun x hx => h x (List.mem_cons_of_mem _ hx)
theorem now_some (k : Int) : ∀ (l1 : List MEn) (e : MEn) (l2 : List MEn) (i : Nat), (∀ e ∈ l1, e.key ≠ k) → e.key = k → Instr.findNow (.int .i64) (.int .i64 k) ((l1 ++ e :: l2).map MEn.en) i = some (some (i + l1.length, e.val))
  | [], e, l2, i, _, he => by simp [Instr.findNow, MEn.en, Instr.sameNow, he]
  | a :: l1, e, l2, i, h, he => by
    have ha := h a (List.mem_cons_self ..)
    have hb : (k == a.key) = false := by simpa using fun h => ha h.symm
    have ih := now_some k l1 e l2 (i + 1) (fun x hx => h x (List.mem_cons_of_mem _ hx)) he
    rw [show i + 1 + l1.length = i + (a :: l1).length by simp; omega] at ih
    simp only [List.cons_append, List.map_cons, Instr.findNow, MEn.en, Instr.sameNow, if_true, hb]
    exact ih
section
variable {P : Program} {ρ : Operand → Value} {w w0 : World} {L : List Seg} {d : Option Tmp} {ty : TypeId} {pos : String} {af : Array Edge} {g : Option (Nat × Bool)} {x y z : Operand}
theorem getMap_run {b c : Nat} {l : List MEn} (h : w.heap[b]? = some (mapO l c)) : (getObj b).run P w = .ok (mapO l c) w := by simp [getObj, Sem.run, h, mapO]
theorem setMap_run {b c : Nat} {l : List MEn} (o : Obj) (h : w.heap[b]? = some (mapO l c)) : (setObj b o).run P w = .ok () (w.putObj b o) := by simp [setObj, Sem.run, h, mapO, World.putObj]
theorem findKey_run {kt : TypeId} {k : Int} {es : List MapEntry} {r : Option (Nat × Value)} (hk : P.underlying kt = some (.int .i64)) (h : Instr.findNow (.int .i64) (.int .i64 k) es 0 = some r) : (Instr.findKey kt (.int .i64 k) es).run P w = .ok r w := by
  simp [Instr.findKey, run_underlying hk, h]
theorem checkKey_run {kt : TypeId} {k : Int} {e : Bool} (hk : P.underlying kt = some (.int .i64)) : (Instr.checkKey e 10000 kt (.int .i64 k)).run P w = .ok () w := by
  have e1 : (10000 : Nat) = 9999 + 1 := rfl
  rw [e1]
  unfold Instr.checkKey
  rw [Sem.run_bind, run_underlying hk]
  rfl
/-- The type's parts: a map from whole numbers. -/
structure MapTy (P : Program) (t kt et : TypeId) (zv : Value) : Prop where
  under : P.underlying t = some (.map kt et)
  key : P.underlying kt = some (.int .i64)
  zero : (P.info? et).bind (·.zero) = some zv
def mapTyB (P : Program) (t kt et : TypeId) : Bool :=
  (match P.underlying t with | some (.map k e) => k == kt && e == et | _ => false) && (match P.underlying kt with | some (.int .i64) => true | _ => false)
theorem MapTy.of {t kt et : TypeId} {zv : Value} (h : mapTyB P t kt et = true) (hz : (P.info? et).bind (·.zero) = some zv) : MapTy P t kt et zv := by
  unfold mapTyB at h
  simp only [Bool.and_eq_true] at h
  obtain ⟨h1, h2⟩ := h
  refine ⟨?_, ?_, hz⟩
  · revert h1; split
    · rename_i k e hu
      intro h
      simp only [Bool.and_eq_true, beq_iff_eq] at h
      rw [hu, h.1, h.2]
    · intro h; cases h
  · revert h2; split
    · rename_i hu; exact fun _ => hu
    · intro h; cases h
theorem zeroValue_run {t : TypeId} {v : Value} (hz : (P.info? t).bind (·.zero) = some v) : (zeroValue t).run P w = .ok v w := by
  cases hi : P.info? t with
  | none => simp [hi] at hz
  | some i =>
    simp only [hi, Option.bind_some] at hz
    simp [zeroValue, typeInfo, hi, hz]
theorem lookup_run {t kt et b c : Nat} {zv : Value} {l : List MEn} {k : Int} (ok : Bool) (hT : MapTy P t kt et zv) (h : w.heap[b]? = some (mapO l c)) :
    (Instr.lookup t (.map (some b)) (.int .i64 k) ok).run P w = .ok (if ok then .tuple #[((lookE l k).map (·.val)).getD zv, .bool (lookE l k).isSome] else ((lookE l k).map (·.val)).getD zv) w := by
  unfold Instr.lookup
  have hg := getMap_run (P := P) h
  unfold mapO at hg
  rcases look_split l k with ⟨h1, h2⟩ | ⟨l1, e, l2, rfl, h1, h2, h3⟩
  · have hf := findKey_run (P := P) (w := w) hT.key (now_none k l 0 h1)
    have hz := zeroValue_run (P := P) (w := w) hT.zero
    rw [h2]
    simp [run_underlying hT.under, hg, checkKey_run hT.key, hf, hz]
  · have hf := findKey_run (P := P) (w := w) hT.key (now_some k l1 e l2 0 h1 h2)
    rw [h3]
    simp [run_underlying hT.under, hg, checkKey_run hT.key]
    simp only [List.map_append, List.map_cons] at hf
    simp [hf]
theorem RX.lookupOk {t kt et b c : Nat} {zv : Value} {l : List MEn} {k : Int} {s : Seg} {i : Nat} (H : Hp w0 w L) (hx : ρ x = .map (some b)) (hy : ρ y = .int .i64 k) (hi : L[i]? = some s) (hm : (b, mapO l c) ∈ s) (hT : MapTy P t kt et zv) :
    Runs P ρ ⟨d, .lookup t x y true, ty, pos, af, g⟩ w (.tuple #[((lookE l k).map (·.val)).getD zv, .bool (lookE l k).isSome]) := by
  unfold Runs
  have h := lookup_run (P := P) (k := k) true hT (H.get hi hm)
  simp only [if_true] at h
  simp [execOp, hx, hy, h]
theorem RX.lookup {t kt et b c : Nat} {zv : Value} {l : List MEn} {k : Int} {s : Seg} {i : Nat} (H : Hp w0 w L) (hx : ρ x = .map (some b)) (hy : ρ y = .int .i64 k) (hi : L[i]? = some s) (hm : (b, mapO l c) ∈ s) (hT : MapTy P t kt et zv) :
    Runs P ρ ⟨d, .lookup t x y false, ty, pos, af, g⟩ w (((lookE l k).map (·.val)).getD zv) := by
  unfold Runs
  have h := lookup_run (P := P) (k := k) false hT (H.get hi hm)
  simp only [Bool.false_eq_true, if_false] at h
  simp [execOp, hx, hy, h]
/-- A new key. -/
theorem EX.mapNew {t kt et b c i : Nat} {zv v : Value} {l : List MEn} {k : Int} (H : Hp w0 w L) (hx : ρ x = .map (some b)) (hy : ρ y = .int .i64 k) (hv : ρ z = v) (hi : L[i]? = some [(b, mapO l c)]) (hT : MapTy P t kt et zv) (hn : lookE l k = none) :
    Does P ρ ⟨d, .mapUpdate t x y z, ty, pos, af, g⟩ w fun _ w' => Hp w0 w' (L.set i [(b, mapO (l ++ [⟨k, v, c⟩]) (c + 1))]) := by
  have hb := H.get1 hi
  have hg := getMap_run (P := P) hb
  unfold mapO at hg
  have h1 : ∀ e ∈ l, e.key ≠ k := by
    rcases look_split l k with ⟨h1, _⟩ | ⟨l1, e, l2, rfl, h1, h2, h3⟩
    · exact h1
    · rw [h3] at hn; cases hn
  have hf := findKey_run (P := P) (w := w) hT.key (now_none k l 0 h1)
  have hs := setMap_run (P := P) (.map ((l.map MEn.en).toArray.push { key := .int .i64 k, val := v, born := c }) (c + 1)) hb
  refine Does.of_skip (w' := w.putObj b (mapO (l ++ [⟨k, v, c⟩]) (c + 1))) ?_ (H.putObj hi)
  have e : mapO (l ++ [⟨k, v, c⟩]) (c + 1) = .map ((l.map MEn.en).toArray.push { key := .int .i64 k, val := v, born := c }) (c + 1) := by simp [mapO, MEn.en]
  rw [e]
  simp [execOp, hx, hy, hv, Instr.mapUpdate, run_underlying hT.under, hg, checkKey_run hT.key, hf]
  rw [setMap_run (P := P) _ hb]; rfl
def dropE (l : List MEn) (k : Int) : List MEn := l.eraseP fun e => e.key == k
theorem EX.delete {t kt et b c i : Nat} {zv : Value} {l : List MEn} {k : Int} {t2 : TypeId} (H : Hp w0 w L) (hx : ρ x = .map (some b)) (hy : ρ y = .int .i64 k) (hi : L[i]? = some [(b, mapO l c)]) (hT : MapTy P t kt et zv) :
    Does P ρ ⟨d, .call { callee := .builtin .delete, args := #[x, y], argTypes := #[t, t2] }, ty, pos, af, g⟩ w fun u w' => u = .tuple #[] ∧ Hp w0 w' (L.set i [(b, mapO (dropE l k) c)]) := by
  have hb := H.get1 hi
  have hg := getMap_run (P := P) hb
  unfold mapO at hg
  rcases look_split l k with ⟨h1, _⟩ | ⟨l1, e, l2, rfl, h1, h2, _⟩
  · have hf := findKey_run (P := P) (w := w) hT.key (now_none k l 0 h1)
    have hs := setMap_run (P := P) (.map (l.map MEn.en).toArray c) hb
    have e : dropE l k = l := List.eraseP_of_forall_not fun a ha => by simpa using h1 a ha
    refine Does.of_run (v := .tuple #[]) (w' := w.putObj b (mapO (dropE l k) c)) ?_ ⟨rfl, H.putObj hi⟩
    rw [e]
    simp [execOp, resolve, invoke, builtin, hx, hy, Builtin.delete_, run_underlying hT.under, hg, checkKey_run hT.key, hf, mapO]
    rw [hs]; rfl
  · have hf := findKey_run (P := P) (w := w) hT.key (now_some k l1 e l2 0 h1 h2)
    have hs := setMap_run (P := P) (.map (((l1 ++ e :: l2).map MEn.en).toArray.eraseIdxIfInBounds l1.length) c) hb
    have e1 : dropE (l1 ++ e :: l2) k = l1 ++ l2 := by
      unfold dropE
      rw [List.eraseP_append_right _ (fun a ha => by simpa using h1 a ha), List.eraseP_cons_of_pos (by simpa using h2)]
    have e2 : (((l1 ++ e :: l2).map MEn.en).toArray.eraseIdxIfInBounds l1.length) = ((l1 ++ l2).map MEn.en).toArray := by
      apply Array.ext'
      simp only [Array.toList_eraseIdxIfInBounds, List.map_append, List.map_cons]
      have : (l1.map MEn.en).length = l1.length := by simp
      rw [← this, List.eraseIdx_append_of_length_le (Nat.le_refl _)]
      simp
    refine Does.of_run (v := .tuple #[]) (w' := w.putObj b (mapO (dropE (l1 ++ e :: l2) k) c)) ?_ ⟨rfl, H.putObj hi⟩
    rw [e1]
    rw [e2] at hs
    simp only [Nat.zero_add] at hf
    simp only [execOp, resolve, invoke, builtin, hx, hy, Builtin.delete_, Sem.run_bind, Sem.run_pure, Result.andThen_ok, run_underlying hT.under, hg, checkKey_run hT.key, hf, mapO, List.map_toArray, List.map_cons, List.map_nil, List.getElem?_toArray, List.getElem?_cons_zero, List.getElem?_cons_succ, e2, hs, Sem.run_map]
theorem EX.makeMap {t : TypeId} (H : Hp w0 w L) : Does P ρ ⟨d, .makeMap t none, ty, pos, af, g⟩ w fun u w' => ∃ b, u = .map (some b) ∧ Hp w0 w' ([(b, mapO [] 0)] :: L) := by
  refine Does.of_run (v := .map (some w.heap.size)) (w' := w.alloc (mapO [] 0)) ?_ ⟨_, rfl, H.alloc _⟩
  simp [execOp, Instr.makeMap]
  rfl
/-! A range over such a map. -/
def iterO (b c : Nat) (vis : List MEn) : Obj := .mapIter (some b) c (vis.map MEn.born).toArray c
theorem EX.range {t kt et b c i : Nat} {zv : Value} {l : List MEn} {s : Seg} (H : Hp w0 w L) (hx : ρ x = .map (some b)) (hi : L[i]? = some s) (hm : (b, mapO l c) ∈ s) (hT : MapTy P t kt et zv) :
    Does P ρ ⟨d, .range t x, ty, pos, af, g⟩ w fun u w' => ∃ r, u = .pointer (some ⟨r, 0, none⟩) ∧ Hp w0 w' ([(r, iterO b c [])] :: L) := by
  have hg := getMap_run (P := P) (H.get hi hm)
  unfold mapO at hg
  refine Does.of_run (v := .pointer (some ⟨w.heap.size, 0, none⟩)) (w' := w.alloc (iterO b c [])) ?_ ⟨_, rfl, H.alloc _⟩
  simp [execOp, hx, Instr.range, run_underlying hT.under, hg]
  rfl
theorem left_perm {l vis left : List MEn} (hnd : (l.map MEn.born).Nodup) (hp : (vis ++ left).Perm l) : (l.filter fun e => !(vis.map MEn.born).contains e.born).Perm left := by
  have h1 := (hp.filter (fun e => !(vis.map MEn.born).contains e.born)).symm
  refine h1.trans ?_
  have hnd2 : ((vis ++ left).map MEn.born).Nodup := (hp.map MEn.born).nodup_iff.2 hnd
  rw [List.map_append, List.nodup_append] at hnd2
  obtain ⟨_, _, hd⟩ := hnd2
  rw [List.filter_append]
  have e1 : (vis.filter fun e => !(vis.map MEn.born).contains e.born) = [] := by
    rw [List.filter_eq_nil_iff]
    intro a ha
    simp only [List.contains_eq_mem, Bool.not_eq_true', decide_eq_false_iff_not, Classical.not_not]
    exact List.mem_map_of_mem ha
  have e2 : (left.filter fun e => !(vis.map MEn.born).contains e.born) = left := by
    rw [List.filter_eq_self]
    intro a ha
    simp only [List.contains_eq_mem, Bool.not_eq_true', decide_eq_false_iff_not]
    intro hm
    exact hd _ hm _ (List.mem_map_of_mem ha) rfl
  rw [e1, e2]; exact List.Perm.refl _
theorem perm_pick {α : Type} {F : List α} {n : Nat} (h : n < F.length) : F.Perm (F[n] :: (F.take n ++ F.drop (n + 1))) := by
  have e : F = F.take n ++ F[n] :: F.drop (n + 1) := by rw [← List.drop_eq_getElem_cons h, List.take_append_drop]
  exact (List.Perm.of_eq e).trans List.perm_middle
theorem next_run {r m since last : Nat} {seen : Array Nat} {es left : Array MapEntry} {w : World} {R : Value → World → Prop} (ty : TypeId) (hgi : (getObj r).run P w = .ok (.mapIter (some m) since seen last) w) (hg : (getObj m).run P w = .ok (.map es last) w)
    (hfirst : (!seen.isEmpty && !es.isEmpty && es.all fun e => decide (e.born ≥ last)) = false) (h1 : (es.filter fun e => !seen.contains e.born) = left) (h2 : (left.filter fun e => decide (e.born < since)) = left) (h3 : (left.filter fun e => decide (e.born ≥ since)) = #[])
    (hset : ∀ (w' : World) (o : Obj), Same w w' → (setObj r o).run P w' = .ok () (w'.putObj r o))
    (hz : left = #[] → ∀ w', Same w w' → R (.tuple #[.bool false]) w') (hs : ∀ n (h : n < left.size) w', Same w w' → R (.tuple #[.bool true, left[n].key, left[n].val]) (w'.putObj r (.mapIter (some m) since (seen.push left[n].born) last))) :
    ∃ v w', (Instr.next (.pointer (some ⟨r, 0, none⟩)) false ty).run P w = .ok v w' ∧ R v w' := by
  have hcand : ∀ k : Nat, 0 < k → ∃ n w', (choose (.mapNext k)).run P w = .ok n w' ∧ Same w w' ∧ n < k := by
    intro k hk
    rw [run_choose]
    by_cases hf : (Question.mapNext k).forced = true
    · rw [if_pos hf]
      exact ⟨0, w, rfl, Same.refl w, hk⟩
    · rw [if_neg hf]
      exact ⟨_, _, rfl, ⟨rfl, rfl, rfl, rfl⟩, Nat.mod_lt _ hk⟩
  simp only [Instr.next, Sem.run_bind, hgi, hg, Result.andThen_ok, hfirst, Bool.false_eq_true, if_false, h1, h2, h3, Array.append_empty]
  by_cases hl : left = #[]
  · subst hl
    obtain ⟨n, w', hn, hsm, hlt⟩ := hcand 1 (by decide)
    obtain rfl : n = 0 := by omega
    refine ⟨_, w', ?_, hz rfl w' hsm⟩
    have e : ((if (#[] : Array MapEntry).isEmpty = true then #[none] else #[]) ++ Array.map some (#[] : Array MapEntry)) = #[none] := by simp
    rw [e]
    show ((choose (.mapNext 1)).run P w).andThen _ = _
    rw [hn]
    rfl
  · have hpos : 0 < left.size := Array.size_pos_iff.2 hl
    obtain ⟨n, w', hn, hsm, hlt⟩ := hcand left.size hpos
    refine ⟨_, _, ?_, hs n hlt w' hsm⟩
    have e : ((if left.isEmpty = true then #[none] else #[]) ++ Array.map some left) = Array.map some left := by
      rw [if_neg (by simpa using hl)]; simp
    rw [e]
    have e2 : (Array.map some left).size = left.size := by simp
    rw [e2, hn]
    have e3 : (Array.map some left)[n]? = some (some left[n]) := by simp [hlt]
    simp only [Result.andThen_ok, e3, Sem.run_bind, hset w' _ hsm, Sem.run_pure]
theorem EX.next {b c i r : Nat} {l vis left : List MEn} {s : Seg} {j : Nat} (H : Hp w0 w L) (hx : ρ x = .pointer (some ⟨r, 0, none⟩)) (hi : L[i]? = some [(r, iterO b c vis)]) (hj : L[j]? = some s) (hm : (b, mapO l c) ∈ s)
    (hb : ∀ e ∈ l, e.born < c) (hnd : (l.map MEn.born).Nodup) (hp : (vis ++ left).Perm l) :
    Does P ρ ⟨d, .next x false, ty, pos, af, g⟩ w fun u w' => (left = [] ∧ u = .tuple #[.bool false] ∧ Hp w0 w' L) ∨
      ∃ e left', left.Perm (e :: left') ∧ u = .tuple #[.bool true, .int .i64 e.key, e.val] ∧ Hp w0 w' (L.set i [(r, iterO b c (vis ++ [e]))]) := by
  have hg : (getObj b).run P w = .ok (.map (l.map MEn.en).toArray c) w := getMap_run (P := P) (H.get hj hm)
  have hr := H.get1 hi
  have hgi : (getObj r).run P w = .ok (.mapIter (some b) c (vis.map MEn.born).toArray c) w := by simp [getObj, Sem.run, hr, iterO]
  have hfirst : (!((vis.map MEn.born).toArray.isEmpty) && !((l.map MEn.en).toArray.isEmpty) && ((l.map MEn.en).toArray.all fun e => decide (e.born ≥ c))) = false := by
    cases l with
    | nil => simp
    | cons a l =>
      have := hb a (List.mem_cons_self ..)
      have hd : decide (c ≤ a.born) = false := decide_eq_false (by omega)
      simp [MEn.en, hd]
  have hF : (l.filter fun e => !(vis.map MEn.born).contains e.born).Perm left := left_perm hnd hp
  have hFb : ∀ e ∈ (l.filter fun e => !(vis.map MEn.born).contains e.born), e.born < c := fun e he => hb e (List.mem_filter.1 he).1
  have e1 : ((l.map MEn.en).toArray.filter fun e => !((vis.map MEn.born).toArray.contains e.born)) = ((l.filter fun e => !(vis.map MEn.born).contains e.born).map MEn.en).toArray := by
    rw [← Array.toList_inj, Array.toList_filter]
    show List.filter _ (l.map MEn.en) = (l.filter _).map MEn.en
    rw [List.filter_map]
    congr 1
    apply List.filter_congr
    intro a _
    show (!(vis.map MEn.born).toArray.contains a.born) = _
    rw [List.contains_toArray]
  generalize (l.filter fun e => !(vis.map MEn.born).contains e.born) = F at *
  have e2 : ((F.map MEn.en).toArray.filter fun e => decide (e.born < c)) = (F.map MEn.en).toArray := by
    rw [← Array.toList_inj, Array.toList_filter]
    show List.filter _ (F.map MEn.en) = F.map MEn.en
    rw [List.filter_eq_self]
    intro a ha
    obtain ⟨e, he, rfl⟩ := List.mem_map.1 ha
    exact decide_eq_true (hFb e he)
  have e3 : ((F.map MEn.en).toArray.filter fun e => decide (e.born ≥ c)) = #[] := by
    rw [← Array.toList_inj, Array.toList_filter]
    show List.filter _ (F.map MEn.en) = []
    rw [List.filter_eq_nil_iff]
    intro a ha
    obtain ⟨e, he, rfl⟩ := List.mem_map.1 ha
    have := hFb e he
    simp [MEn.en]; omega
  have hset : ∀ (w' : World) (o : Obj), Same w w' → (setObj r o).run P w' = .ok () (w'.putObj r o) := by
    intro w' o hs
    have hr' : w'.heap[r]? = some (iterO b c vis) := by rw [hs.heap]; exact hr
    simp [setObj, Sem.run, hr', iterO, World.putObj]
  obtain ⟨v, w', hrun, hR⟩ := next_run (P := P) (w := w) (R := fun u w' => (left = [] ∧ u = .tuple #[.bool false] ∧ Hp w0 w' L) ∨
      ∃ e left', left.Perm (e :: left') ∧ u = .tuple #[.bool true, .int .i64 e.key, e.val] ∧ Hp w0 w' (L.set i [(r, iterO b c (vis ++ [e]))])) ty hgi hg hfirst e1 e2 e3 hset
    (fun h w' hs => .inl ⟨by
      have : F = [] := by simpa using h
      subst this; exact List.nil_perm.1 hF, rfl, H.same hs⟩)
    (fun n hn w' hs => by
      have hnl : n < F.length := by simpa using hn
      refine .inr ⟨F[n], _, hF.symm.trans (perm_pick hnl), ?_, ?_⟩
      · simp [MEn.en]
      · have hit : iterO b c (vis ++ [F[n]]) = .mapIter (some b) c ((vis.map MEn.born).toArray.push ((F.map MEn.en).toArray[n]).born) c := by simp [iterO, MEn.en]
        rw [← hit]
        exact (H.same hs).putObj hi)
  refine Does.of_run (v := v) (w' := w') ?_ hR
  simp only [execOp, hx]
  rw [Sem.run_bind, hrun]
  rfl
end

/-! A slice is made. -/
def fnL {α : Type} (f : Nat → α) (m : Nat) : List α := (List.range m).map f
theorem fnL_len {α : Type} {f : Nat → α} {m : Nat} : (fnL f m).length = m := by simp [fnL]
theorem fnL_get {α : Type} {f : Nat → α} {m i : Nat} (h : i < m) : (fnL f m)[i]? = some (f i) := by simp [fnL, h]
theorem info_one {P : Program} {e b : Nat} {z : Value} (h1 : (P.info? e).bind (·.zero) = some z) (h2 : (P.info? e).map (fun i => (i.size, i.bytes)) = some (1, b)) : ∃ i, P.info? e = some i ∧ i.zero = some z ∧ i.size = 1 ∧ i.bytes = b := by
  cases h : P.info? e with
  | none => rw [h] at h2; cases h2
  | some i =>
    rw [h] at h1 h2
    simp at h1 h2
    exact ⟨i, rfl, h1, h2.1, h2.2⟩
section
variable {P : Program} {f : FuncId} {n : Nat} {R : Ending → World → Prop} {k : List Item} {σ : Env} {w w0 : World} {L : List Seg} {ρ : Operand → Value} {d : Option Tmp} {x y : Operand} {ty : TypeId} {pos : String} {af : Array Edge} {g : Option (Nat × Bool)}
theorem EX.makeS {t e bytes m : Nat} {z : Value} {k : Int} (H : Hp w0 w L) (hu : P.underlying t = some (.slice e)) (hi : ∃ i, P.info? e = some i ∧ i.zero = some z ∧ i.size = 1 ∧ i.bytes = bytes) (hz : z.cells = #[z]) (hx : ρ x = .int .i64 k) (hy : ρ y = .int .i64 k) (hk : k = (m : Nat)) (hb : bytes * m ≤ 281474976710656) (hm : m ≤ 4611686018427387904) :
    Does P ρ ⟨d, .makeSlice t x y, ty, pos, af, g⟩ w fun u w' => ∃ b, u = .slice (some ⟨b, 0, none⟩) m m ∧ Hp w0 w' ([(b, cel (fnL (fun _ => z) m) e)] :: L) := by
  obtain ⟨i, h1, h2, h3, h4⟩ := hi
  subst hk
  have hr := run_make w t e i z hu h1 h2 .i64 .i64 (m : Int) (m : Int) (by omega) (Int.le_refl _) (by rw [h4, ← Int.natCast_mul]; exact Int.ofNat_le.2 hb) (by omega)
  have hc : madeCells z.cells ((m : Int).toNat * i.size) = (fnL (fun _ => z) m).toArray := by
    rw [h3, Int.toNat_natCast, Nat.mul_one, hz]
    unfold madeCells fnL
    apply Array.ext_getElem?
    intro q
    by_cases hq : q < m
    · simp [hq, Nat.mod_one]
    · simp [hq]
  rw [hc] at hr
  refine Does.of_run (v := .slice (some ⟨w.heap.size, 0, none⟩) m m) (w' := w.alloc (cel (fnL (fun _ => z) m) e)) ?_ ⟨_, rfl, H.alloc _⟩
  simp only [execOp, hx, hy, Sem.run_bind, hr, Result.andThen_ok]
  rfl
/-- The entry at which a range stands. -/
theorem RX.entry {b c r i j : Nat} {l vis : List MEn} {e : MEn} {s s' : Seg} (H : Hp w0 w L) (hx : ρ x = .pointer (some ⟨r, 0, none⟩)) (hi : L[i]? = some s') (hm' : (r, iterO b c (vis ++ [e])) ∈ s') (hj : L[j]? = some s) (hm : (b, mapO l c) ∈ s)
    (hnd : (l.map MEn.born).Nodup) (he : e ∈ l) : Runs P ρ ⟨d, .entry x, ty, pos, af, g⟩ w (.tuple #[.int .i64 e.key, e.val]) := by
  have hg : (getObj b).run P w = .ok (.map (l.map MEn.en).toArray c) w := getMap_run (P := P) (H.get hj hm)
  have hr := H.get hi hm'
  have hgi : (getObj r).run P w = .ok (.mapIter (some b) c (((vis ++ [e]).map MEn.born)).toArray c) w := by simp [getObj, Sem.run, hr, iterO]
  have hback : (((vis ++ [e]).map MEn.born)).toArray.back? = some e.born := by simp
  have hfind : ((l.map MEn.en).toArray.find? fun a => a.born == e.born) = some e.en := by
    rw [← Array.find?_toList]
    show List.find? _ (l.map MEn.en) = _
    clear hg hr hgi hback hm
    induction l with
    | nil => cases he
    | cons a l ih =>
      simp only [List.map_cons, List.nodup_cons] at hnd
      by_cases ha : a.born = e.born
      · rcases List.mem_cons.1 he with rfl | he
        · simp [MEn.en]
        · exact absurd (ha ▸ List.mem_map_of_mem he) hnd.1
      · rcases List.mem_cons.1 he with rfl | he
        · exact absurd rfl ha
        · simp only [List.map_cons]
          rw [List.find?_cons_of_neg (by simpa [MEn.en] using ha)]
          exact ih hnd.2 he
  unfold Runs
  simp only [execOp, hx, Instr.entry, Sem.run_bind, hgi, Result.andThen_ok, hback, hg, hfind, bne_self_eq_false, Bool.false_eq_true, if_false]
  rfl
/-! A call is deferred. -/
theorem run_deferA {fn : FuncId} {as : List Operand} {l : List Value} {ats : Array TypeId} (hρ : ρ (.func fn) = .func (.func fn) #[] #[]) (ha : as.map ρ = l) :
    (execOp ρ ⟨d, .defer { callee := .value (.func fn), args := as.toArray, argTypes := ats }, ty, pos, af, g⟩).run P w = .ok (.defer { target := .fn (.func fn) #[], args := l.toArray }) w := by
  subst ha
  simp [execOp, resolve, Deferred.ofValue, hρ]
def JLd (d : Deferred) (D : List Deferred) (P : Program) (f : FuncId) (n : Nat) (R : Ending → World → Prop) (ops : Array Oper) (l : List Oper) (k : List Item) (σ : Env) (w : World) : Prop := ∀ a, Ag D n σ a → wpList P ops (Qk (d :: D) P (.fn f) n R k) l a w
theorem J.regionD {D : List Deferred} {dd : Deferred} {id : Nat} {l : List Oper} (h : JLd dd D P f n R l.toArray l k σ w) : J D P (.fn f) n R (.code (.region id l.toArray false) :: k) σ w :=
  J.region_into (D' := dd :: D) fun a ha => wp_region_lit (h a ha)
theorem JLd.go {D : List Deferred} {dd : Deferred} {ops : Array Oper} {o : Oper} {rest : List Oper} {v : Value} (hg : GOk n σ ops o.guard) (hr : Runs P (ev n σ) o w v) (h : JLd dd D P f n R ops rest k (updO σ o.dst v) w) : JLd dd D P f n R ops (o :: rest) k σ w := by
  intro a ha
  have hy : yielded ops a.tmps = yieldE n σ ops := funext (ha.yields ops)
  simp only [wpList, hy, hg.wanted, if_true]
  exact .inl (wp_of_does (by rw [ha.eval]; exact Does.of_run (Φ := fun u w' => u = v ∧ w' = w) hr ⟨rfl, rfl⟩) fun u w' hu => by rw [hu.1, hu.2]; exact h _ (ha.put _ _))
theorem JLd.defer {D : List Deferred} {dd : Deferred} {ops : Array Oper} {o : Oper} (hg : o.guard = none) (hn : o.dst = none) (hr : (execOp (ev n σ) o).run P w = .ok (.defer dd) w) (h : J (dd :: D) P (.fn f) n R k σ w) : JLd dd D P f n R ops [o] k σ w := by
  intro a ha
  have hw : ∀ y, Region.wanted o y = true := fun y => by simp [Region.wanted, hg]
  simp only [wpList, hw, if_true]
  refine .inl ?_
  unfold Oper.wp
  rw [ha.eval, hr]
  simp only [Oper.upon, hn, Act.put]
  have hag : Ag (dd :: D) n σ { a with defers := dd :: a.defers } := ⟨ha.size, ha.at_, by rw [ha.defers]⟩
  exact ⟨rfl, ha.size, hag.defers, h _ hag⟩
open Go.Conc.Locks in
theorem J.unlock {M : MuLink} (HM : MuLib P M) {fn : Func} {b o i T : Nat} {l : List Value} {v : Value} (hf : P.funcs[f]? = some fn) (H : Hp w0 w L) (hi : L[i]? = some [(b, cel l T)]) (hv : l[o]? = some (.int .i32 1))
    (hr : ∀ w' a, Ag [{ target := .fn (.func M.unlock) #[], args := #[.pointer (some ⟨b, o, none⟩)] }] n σ a → (results fn a.tmps).run P w' = .ok v w') (h : ∀ w', Hp w0 w' (L.set i [(b, cel (l.set o (.int .i32 0)) T)]) → R (.returned v) w') :
    J [{ target := .fn (.func M.unlock) #[], args := #[.pointer (some ⟨b, o, none⟩)] }] P (.fn f) n R (.code .ret :: k) σ w :=
  J.ret_leaves hf fun a ha => leaves_unlock HM H hi hv fun w' H' => ⟨v, hr w' a ha, h w' H'⟩
theorem unl1 {D : List Deferred} {fn : Func} {t : Tmp} {v : Value} (h : fn.results = #[.tmp t]) (hv : ev n σ (.tmp t) = v) : ∀ w' a, Ag D n σ a → (results fn a.tmps).run P w' = .ok v w' := fun _ a ha => results1 h hv a ha
theorem unl2 {D : List Deferred} {fn : Func} {t u : Tmp} {v x : Value} (h : fn.results = #[.tmp t, .tmp u]) (hv : ev n σ (.tmp t) = v) (hx : ev n σ (.tmp u) = x) : ∀ w' a, Ag D n σ a → (results fn a.tmps).run P w' = .ok (.tuple #[v, x]) w' := fun _ a ha => results2 h hv hx a ha
end
end Go.Eng
