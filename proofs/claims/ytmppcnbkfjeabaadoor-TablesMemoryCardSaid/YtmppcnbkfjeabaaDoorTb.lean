/- Tables in memory, and what their functions do. -/
import Derived.Test.YtmppcnbkfjeabaaDoorFl
namespace Go.Proofs.YtmppcnbkfjeabaaDoor
open Go Go.Eng
set_option maxRecDepth 100000
set_option linter.unusedVariables false
set_option linter.unusedSimpArgs false
theorem cl15 : callable Tryd.prog 15 = true := by kernel_rfl
theorem cl23 : callable Tryd.prog 23 = true := by kernel_rfl
theorem cl24 : callable Tryd.prog 24 = true := by kernel_rfl
theorem cl26 : callable Tryd.prog 26 = true := by kernel_rfl
theorem cl30 : callable Tryd.prog 30 = true := by kernel_rfl
theorem cl42 : callable Tryd.prog 42 = true := by kernel_rfl
theorem ext61 : ExtIs Tryd.prog 61 Extern.MathFloatBits.float64bits := ⟨_, Tryd.func61, by decide, by decide, by kernel_rfl, by kernel_rfl⟩
theorem fo66_0 : fieldOff Tryd.prog 66 0 = some 0 := by kernel_rfl
theorem fo66_1 : fieldOff Tryd.prog 66 1 = some 2 := by kernel_rfl
theorem fo66_2 : fieldOff Tryd.prog 66 2 = some 3 := by kernel_rfl
theorem one26 : oneOf Tryd.prog 26 = true := by kernel_rfl
theorem one3 : oneOf Tryd.prog 3 = true := by kernel_rfl
theorem one57 : oneOf Tryd.prog 57 = true := by kernel_rfl
theorem sz3 : szOf Tryd.prog 3 = some 1 := by kernel_rfl
theorem ud31 : Tryd.prog.underlying 31 = some (.slice 26) := by kernel_rfl
abbrev muLink : Go.Conc.Locks.MuLink := { lock := 26, unlock := 27, ilock := 38, iunlock := 39, lockSlow := 55, unlockSlow := 58, disable := 51, enable := 53, acquire := 54, relMerge := 56, cas32 := 52, add32 := 57, tMutex := 64, tIMutex := 62, tPMutex := 84, tPIMutex := 93, tPI32 := 95, tUP := 97, tNoCopy := 59, tU32 := 60 }
theorem muLib : Go.Conc.Locks.MuLib Tryd.prog muLink :=
  ⟨Tryd.func26, Tryd.func27, Tryd.func38, Tryd.func39, Tryd.func51, Tryd.func53, Tryd.func54, Tryd.func56, Tryd.func52, Tryd.func57, Tryd.underlying62, Tryd.runUnderlying62, Tryd.sizeOf62, Tryd.isAgg62, Tryd.zeroValue62, Tryd.underlying64, Tryd.runUnderlying64, Tryd.sizeOf64, Tryd.isAgg64, Tryd.zeroValue64, Tryd.underlying84, Tryd.runUnderlying84, Tryd.sizeOf84, Tryd.isAgg84, Tryd.zeroValue84, Tryd.underlying93, Tryd.runUnderlying93, Tryd.sizeOf93, Tryd.isAgg93, Tryd.zeroValue93, Tryd.underlying95, Tryd.runUnderlying95, Tryd.sizeOf95, Tryd.isAgg95, Tryd.zeroValue95, Tryd.underlying97, Tryd.runUnderlying97, Tryd.sizeOf97, Tryd.isAgg97, Tryd.zeroValue97, Tryd.underlying59, Tryd.runUnderlying59, Tryd.sizeOf59, Tryd.isAgg59, Tryd.zeroValue59, Tryd.underlying21, Tryd.runUnderlying21, Tryd.sizeOf21, Tryd.isAgg21, Tryd.zeroValue21, (by kernel_rfl)⟩

section
variable {P : Program} {w w0 : World} {L : List Seg} {ρ : Operand → Value} {d : Option Tmp} {x y : Operand} {ty : TypeId} {pos : String} {af : Array Edge} {g : Option (Nat × Bool)}
theorem RX.slnil_eql {t t' e : TypeId} {p : Option Addr} {n c : Nat} (hx : ρ x = .slice p n c) (hy : ρ y = .slice none 0 0) (ht : P.underlying t = some (.slice e)) : Runs P ρ ⟨d, .binOp .eql t x y t', ty, pos, af, g⟩ w (.bool p.isNone) := by
  have h0 : (Op.equal t (.slice p n c) (.slice none 0 0)).run P w = .ok p.isNone w := by
    unfold Op.equal Op.maxDepth Op.equalIn
    simp only [Sem.run_bind, run_underlying ht, Result.andThen_ok]
    cases p <;> rfl
  have h1 : (binOp .eql t (.slice p n c) (.slice none 0 0)).run P w = .ok (.bool p.isNone) w := by
    simp only [binOp]; simp [h0]
  unfold Runs
  simp [execOp, hx, hy, eqGuard_at_slice, h1]
theorem RX.lookupHit {t kt et b c : Nat} {zv v : Value} {l : List MEn} {k : Int} {s : Seg} {i : Nat} {e : MEn} (H : Hp w0 w L) (hx : ρ x = .map (some b)) (hy : ρ y = .int .i64 k) (hi : L[i]? = some s) (hm : (b, mapO l c) ∈ s) (hT : MapTy P t kt et zv) (hl : lookE l k = some e) (hv : e.val = v) :
    Runs P ρ ⟨d, .lookup t x y true, ty, pos, af, g⟩ w (.tuple #[v, .bool true]) := by
  have h := RX.lookupOk (d := d) (ty := ty) (pos := pos) (af := af) (g := g) H hx hy hi hm hT
  rw [hl] at h
  subst hv
  exact h
theorem RX.lookupMiss {t kt et b c : Nat} {zv : Value} {l : List MEn} {k : Int} {s : Seg} {i : Nat} (H : Hp w0 w L) (hx : ρ x = .map (some b)) (hy : ρ y = .int .i64 k) (hi : L[i]? = some s) (hm : (b, mapO l c) ∈ s) (hT : MapTy P t kt et zv) (hl : lookE l k = none) :
    Runs P ρ ⟨d, .lookup t x y true, ty, pos, af, g⟩ w (.tuple #[zv, .bool false]) := by
  have h := RX.lookupOk (d := d) (ty := ty) (pos := pos) (af := af) (g := g) H hx hy hi hm hT
  rw [hl] at h
  exact h
end
theorem emod_tmod {n k : Int} (hn : 0 < n) : k.tmod n % n = k % n := by
  rw [Int.tmod_def, Int.sub_emod, Int.mul_emod_right, Int.sub_zero, Int.emod_emod_of_dvd k (Int.dvd_refl n)]
theorem tmod_pos {n k : Int} (hn : 0 < n) (h : ¬ k.tmod n < 0) : k.tmod n = k % n := by
  rw [← emod_tmod hn, Int.emod_eq_of_lt (by omega) (Int.tmod_lt_of_pos k hn)]
theorem tmod_neg {n k : Int} (hn : 0 < n) (h : k.tmod n < 0) : k.tmod n + n = k % n := by
  have := Int.lt_tmod_of_pos k hn
  rw [← emod_tmod hn, ← Int.add_emod_right, Int.emod_eq_of_lt (by omega) (by omega)]
/-- Tables: the map, what has been made, and the tables' blocks. -/
structure TS where
  mb : Nat
  l : List MEn
  c : Nat
  m : Int
  ts : Seg
def TS.keys (s : TS) : List Int := s.l.map MEn.key
def tabV (b : Nat) (n : Int) : Value := .slice (some ⟨b, 0, none⟩) n.toNat n.toNat
structure TS.ok (s : TS) : Prop where
  born : ∀ e ∈ s.l, e.born < s.c
  nd : (s.l.map MEn.born).Nodup
  ndk : s.keys.Nodup
  rng : ∀ e ∈ s.l, 1 ≤ e.key ∧ e.key ≤ 16384
  tab : ∀ e ∈ s.l, ∃ b xs, e.val = tabV b e.key ∧ (b, cel xs 26) ∈ s.ts ∧ RowOf e.key xs
  made : 0 ≤ s.m
abbrev TS.tb (s : TS) (t : Nat) (lk : Int) : Seg := [(t, cel [.int .i32 lk, .int .u32 0, .map (some s.mb), .int .i64 s.m] 66)]
abbrev TS.mp (s : TS) : Seg := [(s.mb, mapO s.l s.c)]
def Asked (n : Int) (s s' : TS) : Prop := (n ∈ s.keys ∧ s' = s) ∨ (n ∉ s.keys ∧ s'.keys = s.keys ++ [n] ∧ s'.m = s.m + 1)
def TS.has (s : TS) (n : Int) (b : Nat) (xs : List Value) : Prop := (b, cel xs 26) ∈ s.ts ∧ RowOf n xs
theorem mapT : MapTy Tryd.prog 57 3 31 (.slice none 0 0) := MapTy.of (by kernel_rfl) (by kernel_rfl)
theorem elC : Elem Tryd.prog 31 26 1 16 := Elem.of (by kernel_rfl)
theorem look_mem {s : TS} {n : Int} (h : n ∈ s.keys) : ∃ e ∈ s.l, e.key = n ∧ lookE s.l n = some e := by
  rcases look_split s.l n with ⟨h1, _⟩ | ⟨l1, e, l2, hl, h1, h2, h3⟩
  · obtain ⟨e, he, hk⟩ := List.mem_map.1 h
    exact absurd hk (h1 e he)
  · exact ⟨e, by rw [hl]; simp, h2, h3⟩
theorem look_not {s : TS} {n : Int} (h : n ∉ s.keys) : lookE s.l n = none := by
  rcases look_split s.l n with ⟨_, h2⟩ | ⟨l1, e, l2, hl, h1, h2, h3⟩
  · exact h2
  · exact absurd (List.mem_map.2 ⟨e, by rw [hl]; simp, h2⟩) h
def TS.add (s : TS) (n : Int) (b : Nat) (xs : List Value) : TS := ⟨s.mb, s.l ++ [⟨n, tabV b n, s.c⟩], s.c + 1, s.m + 1, (b, cel xs 26) :: s.ts⟩
theorem TS.add_keys (s : TS) (n : Int) (b : Nat) (xs : List Value) : (s.add n b xs).keys = s.keys ++ [n] := by simp [TS.keys, TS.add]
theorem TS.ok.add {s : TS} (h : s.ok) {n : Int} {b : Nat} {xs : List Value} (hn : n ∉ s.keys) (h1 : 1 ≤ n) (h2 : n ≤ 16384) (hr : RowOf n xs) : (s.add n b xs).ok := by
  refine ⟨fun e he => ?_, ?_, ?_, fun e he => ?_, fun e he => ?_, by have := h.made; show 0 ≤ s.m + 1; omega⟩
  · rcases List.mem_append.1 he with he | he
    · have := h.born e he; show e.born < s.c + 1; omega
    · rw [List.mem_singleton.1 he]; show s.c < s.c + 1; omega
  · show ((s.l ++ [_]).map MEn.born).Nodup
    rw [List.map_append, List.nodup_append]
    refine ⟨h.nd, by simp, fun a ha b hb => ?_⟩
    obtain ⟨e, he, rfl⟩ := List.mem_map.1 ha
    have hb := List.mem_singleton.1 hb
    have := h.born e he
    rw [hb]; show e.born ≠ s.c; omega
  · rw [TS.add_keys, List.nodup_append]
    refine ⟨h.ndk, by simp, fun a ha b hb e => ?_⟩
    rw [List.mem_singleton.1 hb] at e
    exact hn (e ▸ ha)
  · rcases List.mem_append.1 he with he | he
    · exact h.rng e he
    · rw [List.mem_singleton.1 he]; exact ⟨h1, h2⟩
  · rcases List.mem_append.1 he with he | he
    · obtain ⟨b', xs', e1, e2, e3⟩ := h.tab e he
      exact ⟨b', xs', e1, List.mem_cons_of_mem _ e2, e3⟩
    · rw [List.mem_singleton.1 he]; exact ⟨b, xs, rfl, List.mem_cons_self .., hr⟩
theorem hp_five {w0 w : World} {A B C D : Seg} {F : List Seg} (H : Hp w0 w (A :: B :: C :: D :: F)) : Hp w0 w (B :: C :: (A ++ D) :: F) := by
  have h := ((H.pull 3 rfl).pull 1 rfl).join
  exact (h.pull 2 rfl).pull 2 rfl
theorem cell_row {n : Int} {m : Nat} {xs : List Value} (h : RowUp n m xs) {k : Nat} (hk : k < m) : ∃ a b, xs.toArray[k]? = some (.complex .f64 a b) ∧ cn a = (rootN n k).1 ∧ cn b = (rootN n k).2 := by
  obtain ⟨a, b, h1, h2, h3⟩ := h k hk
  exact ⟨a, b, by simpa using h1, h2, h3⟩

theorem table_hit {w0 w : World} {F : List Seg} {t : Nat} {s : TS} (H : Hp w0 w (s.tb t 0 :: s.mp :: s.ts :: F)) (ok : s.ok) {n : Int} (hn : 1 ≤ n) (hn2 : n ≤ 16384) (hm : n ∈ s.keys) : Ret Tryd.prog 23 [.pointer (some ⟨t, 0, none⟩), .int .i64 n] w fun v w' => ∃ s' b xs, v = .tuple #[tabV b n, .nilIface] ∧ s'.ok ∧ s'.has n b xs ∧ Asked n s s' ∧ Hp w0 w' (s'.tb t 0 :: s'.mp :: s'.ts :: F) := by
  refine Calls.of_J (n := 72) Tryd.func23 rfl rfl rfl ?_
  refine J.seq ?_
  refine J.region ?_
  refine JL.go trivial (RX.assign) ?_
  refine JL.go trivial (RX.assign) ?_
  refine JL.nil ?_
  refine J.seq ?_
  refine J.seq ?_
  refine J.region ?_
  refine JL.go trivial (RX.movev (v := Value.int _ _) rfl) ?_
  refine JL.go trivial (RX.lt rfl rfl) ?_
  refine JL.go trivial (RX.movev (v := Value.bool _) rfl) ?_
  refine JL.go ⟨_, rfl, (decide_eq_false (by omega))⟩ (RX.movev (v := Value.int _ _) rfl) ?_
  refine JL.go ⟨_, rfl, (decide_eq_false (by omega))⟩ (RX.gt rfl rfl) ?_
  refine JL.go trivial (RX.pick_f rfl (decide_eq_false (by omega))) ?_
  refine JL.nil ?_
  refine J.cond_f rfl (decide_eq_false (by omega)) ?_
  refine J.skip ?_
  refine J.seq ?_
  obtain ⟨e, hem, hek, hlook⟩ := look_mem hm
  obtain ⟨b, xs, hv, hts, hrow⟩ := ok.tab e hem
  subst hek
  refine J.region ?_
  refine JL.go trivial (RX.movev (v := Value.pointer _) rfl) ?_
  refine JL.go trivial (RX.nilCheck rfl) ?_
  refine JL.go trivial (RX.fieldAddr rfl fo66_0 rfl) ?_
  refine JL.does trivial (EX.call rfl cl26 rfl ((lock_r muLib H (i := 0) rfl rfl))) ?_
  rintro _ w ⟨rfl, H⟩
  replace H : Hp w0 w (s.tb t 1 :: s.mp :: s.ts :: F) := H
  refine JL.nil ?_
  refine J.seq ?_
  refine J.regionD (dd := { target := .fn (.func 27) #[], args := #[.pointer (some ⟨t, 0, none⟩)] }) ?_
  refine JLd.go trivial (RX.movev (v := Value.pointer _) rfl) ?_
  refine JLd.go trivial (RX.nilCheck rfl) ?_
  refine JLd.go trivial (RX.fieldAddr rfl fo66_0 rfl) ?_
  refine JLd.defer rfl rfl (run_deferA rfl rfl) ?_
  refine J.seq ?_
  refine J.seq ?_
  refine J.region ?_
  refine JL.go trivial (RX.movev (v := Value.pointer _) rfl) ?_
  refine JL.go trivial (RX.nilCheck rfl) ?_
  refine JL.go trivial (RX.fieldAddr rfl fo66_1 rfl) ?_
  refine JL.go trivial (by first | exact RX.load H rfl (i := 0) rfl rfl one57 | exact RX.load H rfl (i := 1) rfl rfl one57 | exact RX.load H rfl (i := 2) rfl rfl one57 | exact RX.load H rfl (i := 3) rfl rfl one57 | exact RX.load H rfl (i := 4) rfl rfl one57 | exact RX.load H rfl (i := 5) rfl rfl one57) ?_
  refine JL.go trivial (RX.movev (v := Value.int _ _) rfl) ?_
  refine JL.go trivial (RX.lookupHit H rfl rfl (i := 1) rfl (List.mem_singleton.2 rfl) mapT hlook hv) ?_
  refine JL.go trivial (RX.movev (v := Value.tuple _) rfl) ?_
  refine JL.go trivial (RX.extract rfl rfl) ?_
  refine JL.go trivial (RX.extract rfl rfl) ?_
  refine JL.go trivial (RX.assignv (v := Value.slice _ _ _) rfl) ?_
  refine JL.go trivial (RX.assignv (v := Value.bool _) rfl) ?_
  refine JL.nil ?_
  refine J.seq ?_
  refine J.region ?_
  refine JL.go trivial (RX.movev (v := Value.bool _) rfl) ?_
  refine JL.nil ?_
  refine J.cond_t rfl rfl ?_
  refine J.seq ?_
  refine J.region ?_
  refine JL.go trivial (RX.movev (v := Value.slice _ _ _) rfl) ?_
  refine JL.go trivial (RX.assignv (v := Value.slice _ _ _) rfl) ?_
  refine JL.go trivial (RX.assign) ?_
  refine JL.nil ?_
  refine J.unlock muLib Tryd.func23 H (i := 0) rfl rfl (unl2 (v := Value.slice _ _ _) rfl rfl rfl ) ?_
  intro w H
  exact ⟨_, rfl, s, b, xs, rfl, ok, ⟨hts, hrow⟩, .inl ⟨hm, rfl⟩, H⟩
theorem table_make {w0 w : World} {F : List Seg} {t : Nat} {s : TS} (H : Hp w0 w (s.tb t 0 :: s.mp :: s.ts :: F)) (ok : s.ok) {n : Int} (hn : 1 ≤ n) (hn2 : n ≤ 16384) (hm : n ∉ s.keys) (hmm : s.m < 9223372036854775807) : Ret Tryd.prog 23 [.pointer (some ⟨t, 0, none⟩), .int .i64 n] w fun v w' => ∃ s' b xs, v = .tuple #[tabV b n, .nilIface] ∧ s'.ok ∧ s'.has n b xs ∧ Asked n s s' ∧ Hp w0 w' (s'.tb t 0 :: s'.mp :: s'.ts :: F) := by
  refine Calls.of_J (n := 72) Tryd.func23 rfl rfl rfl ?_
  refine J.seq ?_
  refine J.region ?_
  refine JL.go trivial (RX.assign) ?_
  refine JL.go trivial (RX.assign) ?_
  refine JL.nil ?_
  refine J.seq ?_
  refine J.seq ?_
  refine J.region ?_
  refine JL.go trivial (RX.movev (v := Value.int _ _) rfl) ?_
  refine JL.go trivial (RX.lt rfl rfl) ?_
  refine JL.go trivial (RX.movev (v := Value.bool _) rfl) ?_
  refine JL.go ⟨_, rfl, (decide_eq_false (by omega))⟩ (RX.movev (v := Value.int _ _) rfl) ?_
  refine JL.go ⟨_, rfl, (decide_eq_false (by omega))⟩ (RX.gt rfl rfl) ?_
  refine JL.go trivial (RX.pick_f rfl (decide_eq_false (by omega))) ?_
  refine JL.nil ?_
  refine J.cond_f rfl (decide_eq_false (by omega)) ?_
  refine J.skip ?_
  refine J.seq ?_
  have hlook := look_not hm
  have hm0 := ok.made
  refine J.region ?_
  refine JL.go trivial (RX.movev (v := Value.pointer _) rfl) ?_
  refine JL.go trivial (RX.nilCheck rfl) ?_
  refine JL.go trivial (RX.fieldAddr rfl fo66_0 rfl) ?_
  refine JL.does trivial (EX.call rfl cl26 rfl ((lock_r muLib H (i := 0) rfl rfl))) ?_
  rintro _ w ⟨rfl, H⟩
  replace H : Hp w0 w (s.tb t 1 :: s.mp :: s.ts :: F) := H
  refine JL.nil ?_
  refine J.seq ?_
  refine J.regionD (dd := { target := .fn (.func 27) #[], args := #[.pointer (some ⟨t, 0, none⟩)] }) ?_
  refine JLd.go trivial (RX.movev (v := Value.pointer _) rfl) ?_
  refine JLd.go trivial (RX.nilCheck rfl) ?_
  refine JLd.go trivial (RX.fieldAddr rfl fo66_0 rfl) ?_
  refine JLd.defer rfl rfl (run_deferA rfl rfl) ?_
  refine J.seq ?_
  refine J.seq ?_
  refine J.region ?_
  refine JL.go trivial (RX.movev (v := Value.pointer _) rfl) ?_
  refine JL.go trivial (RX.nilCheck rfl) ?_
  refine JL.go trivial (RX.fieldAddr rfl fo66_1 rfl) ?_
  refine JL.go trivial (by first | exact RX.load H rfl (i := 0) rfl rfl one57 | exact RX.load H rfl (i := 1) rfl rfl one57 | exact RX.load H rfl (i := 2) rfl rfl one57) ?_
  refine JL.go trivial (RX.movev (v := Value.int _ _) rfl) ?_
  refine JL.go trivial (RX.lookupMiss H rfl rfl (i := 1) rfl (List.mem_singleton.2 rfl) mapT hlook) ?_
  refine JL.go trivial (RX.movev (v := Value.tuple _) rfl) ?_
  refine JL.go trivial (RX.extract rfl rfl) ?_
  refine JL.go trivial (RX.extract rfl rfl) ?_
  refine JL.go trivial (RX.assignv (v := Value.slice _ _ _) rfl) ?_
  refine JL.go trivial (RX.assignv (v := Value.bool _) rfl) ?_
  refine JL.nil ?_
  refine J.seq ?_
  refine J.region ?_
  refine JL.go trivial (RX.movev (v := Value.bool _) rfl) ?_
  refine JL.nil ?_
  refine J.cond_f rfl rfl ?_
  refine J.skip ?_
  refine J.seq ?_
  refine J.region ?_
  refine JL.go trivial (RX.movev (v := Value.int _ _) rfl) ?_
  refine JL.does trivial (EX.makeS (e := 26) (m := n.toNat) H mkC.1 mkC.2 rfl rfl rfl (by omega) (by omega) (by omega)) ?_
  rintro _ w ⟨b1, rfl, H⟩
  refine JL.go trivial (RX.assignv (v := Value.slice _ _ _) rfl) ?_
  refine JL.nil ?_
  refine J.seq ?_
  refine J.seq ?_
  refine J.region ?_
  refine JL.go trivial (RX.movev (v := Value.slice _ _ _) rfl) ?_
  refine JL.go trivial (RX.len_slice rfl (by rw [sl31]; rfl) rfl) ?_
  refine JL.go trivial (RX.move) ?_
  refine JL.nil ?_
  refine J.block ?_
  refine J.loop (ι := Nat × List Value) (S := fun z => [(41, .int .i64 (z.1 : Nat))]) (Φ := fun z w => z.1 ≤ n.toNat ∧ z.2.length = n.toNat ∧ RowUp n z.1 z.2 ∧ Hp w0 w ([(b1, cel (z.2) 26)] :: s.tb t 1 :: s.mp :: s.ts :: F)) (μ := fun z => n.toNat - z.1) (C := [(0, _), (1, _), (8, _), (40, _)]) (0, fnL (fun _ => .complex .f64 0 0) n.toNat) ⟨rfl, rfl, rfl, rfl, trivial⟩ ⟨rfl, trivial⟩ ?_ ?_
  · exact ⟨by simp, fnL_len, fun k hk => absurd hk (by simp), H⟩
  clear H
  rintro ⟨k, xs⟩ ρ w ⟨hk, hl, hr, H⟩ IH
  simp only at hk hl hr H
  dsimp only
  refine J.seq ?_
  refine J.region ?_
  refine JL.go trivial (RX.lt rfl rfl) ?_
  refine JL.nil ?_
  refine J.seq ?_
  refine J.cond_d rfl (fun hlt => ?_) (fun hlt => ?_)
  · skip
    refine J.skip ?_
    refine J.seq ?_
    refine J.block ?_
    refine J.seq ?_
    refine J.region ?_
    refine JL.go trivial (RX.movev (v := Value.int _ _) rfl) ?_
    refine JL.go trivial (RX.assignv (v := Value.int _ _) rfl) ?_
    refine JL.nil ?_
    refine J.seq ?_
    refine J.region ?_
    refine JL.go trivial (RX.movev (v := Value.int _ _) rfl) ?_
    refine JL.go trivial (RX.movev (v := Value.int _ _) rfl) ?_
    refine JL.does trivial (EX.call rfl cl14 rfl ((Root_b H hn (by omega) (by constructor <;> omega)))) ?_
    rintro _ w ⟨a, b, rfl, ha, hb, H⟩
    refine JL.go trivial (RX.movev (v := Value.tuple _) rfl) ?_
    refine JL.go trivial (RX.extract rfl rfl) ?_
    refine JL.go trivial (RX.extract rfl rfl) ?_
    refine JL.go trivial (RX.assignv (v := Value.complex _ _ _) rfl) ?_
    refine JL.go trivial (RX.assign) ?_
    refine JL.nil ?_
    refine J.seq ?_
    refine J.seq ?_
    refine J.region ?_
    refine JL.go trivial (RX.move) ?_
    refine JL.go trivial (RX.ifnil_neq rfl rfl rfl if28) ?_
    refine JL.nil ?_
    refine J.cond_f rfl rfl ?_
    refine J.skip ?_
    refine J.region ?_
    refine JL.go trivial (RX.movev (v := Value.slice _ _ _) rfl) ?_
    refine JL.go trivial (RX.movev (v := Value.int _ _) rfl) ?_
    refine JL.go trivial (RX.movev (v := Value.complex _ _ _) rfl) ?_
    refine JL.go trivial (RX.indexAddr rfl rfl sl31 (by omega) (by omega) (o' := k) (by omega)) ?_
    refine JL.does trivial (EX.store (v := Value.complex _ _ _) H rfl rfl (i := 0) rfl rfl (by omega) sz26 rfl rfl) ?_
    rintro _ w H
    refine JL.nil ?_
    refine J.inBlock ?_
    refine J.region ?_
    refine JL.go trivial (RX.add rfl rfl (w_i64 (r := ((k + 1 : Nat) : Int)) (by omega) (by omega) (by omega))) ?_
    refine JL.go trivial (RX.movev (v := Value.int _ _) rfl) ?_
    refine JL.nil ?_
    exact IH (k + 1, xs.set k (.complex .f64 a b)) _ _ (by simp only; omega) ⟨rfl, rfl, rfl, rfl, trivial⟩ ⟨rfl, trivial⟩ ⟨by simp only; omega, by rw [List.length_set]; exact hl, hr.step (by omega) ha hb, H⟩
  · skip
    have hkk : k = n.toNat := by omega
    subst hkk
    refine J.exit rfl ?_
    refine J.seq ?_
    refine J.region ?_
    refine JL.go trivial (RX.movev (v := Value.pointer _) rfl) ?_
    refine JL.go trivial (RX.nilCheck rfl) ?_
    refine JL.go trivial (RX.fieldAddr rfl fo66_1 rfl) ?_
    refine JL.go trivial (by first | exact RX.load H rfl (i := 0) rfl rfl one57 | exact RX.load H rfl (i := 1) rfl rfl one57 | exact RX.load H rfl (i := 2) rfl rfl one57) ?_
    refine JL.go trivial (RX.movev (v := Value.int _ _) rfl) ?_
    refine JL.go trivial (RX.movev (v := Value.slice _ _ _) rfl) ?_
    refine JL.does trivial (EX.mapNew H rfl rfl rfl (i := 2) rfl mapT hlook) ?_
    rintro _ w H
    replace H : Hp w0 w ([(b1, cel (xs) 26)] :: s.tb t 1 :: (s.add n b1 xs).mp :: s.ts :: F) := H
    refine JL.nil ?_
    refine J.seq ?_
    refine J.region ?_
    refine JL.go trivial (RX.movev (v := Value.pointer _) rfl) ?_
    refine JL.go trivial (RX.nilCheck rfl) ?_
    refine JL.go trivial (RX.fieldAddr rfl fo66_2 rfl) ?_
    refine JL.go trivial (RX.load H rfl (i := 1) (v := .int .i64 s.m) rfl rfl one3) ?_
    refine JL.go trivial (RX.add rfl rfl (w_i64 (r := s.m + 1) (by omega) (by omega) (by omega))) ?_
    refine JL.go trivial (RX.nilCheck rfl) ?_
    refine JL.go trivial (RX.fieldAddr rfl fo66_2 rfl) ?_
    refine JL.does trivial (EX.store (v := Value.int _ _) H rfl rfl (i := 1) rfl rfl (by simp) sz3 rfl rfl) ?_
    rintro _ w H
    refine JL.nil ?_
    refine J.seq ?_
    refine J.region ?_
    refine JL.go trivial (RX.movev (v := Value.slice _ _ _) rfl) ?_
    refine JL.go trivial (RX.assignv (v := Value.slice _ _ _) rfl) ?_
    refine JL.go trivial (RX.assign) ?_
    refine JL.nil ?_
    refine J.unlock muLib Tryd.func23 H (i := 1) rfl rfl (unl2 (v := Value.slice _ _ _) rfl rfl rfl ) ?_
    intro w H
    exact ⟨_, rfl, s.add n b1 xs, b1, xs, rfl, ok.add hm hn hn2 ⟨hl, hr⟩, ⟨List.mem_cons_self .., hl, hr⟩, .inr ⟨hm, TS.add_keys .., rfl⟩, hp_five H⟩
theorem table_b {w0 w : World} {F : List Seg} {t : Nat} {s : TS} (H : Hp w0 w (s.tb t 0 :: s.mp :: s.ts :: F)) (ok : s.ok) {n : Int} (hn : 1 ≤ n) (hn2 : n ≤ 16384) (hmm : s.m < 9223372036854775807) : Ret Tryd.prog 23 [.pointer (some ⟨t, 0, none⟩), .int .i64 n] w fun v w' => ∃ s' b xs, v = .tuple #[tabV b n, .nilIface] ∧ s'.ok ∧ s'.has n b xs ∧ Asked n s s' ∧ Hp w0 w' (s'.tb t 0 :: s'.mp :: s'.ts :: F) := by
  by_cases hm : n ∈ s.keys
  · exact table_hit H ok hn hn2 hm
  · exact table_make H ok hn hn2 hm hmm
theorem table_e {w0 w : World} {F : List Seg} (H : Hp w0 w F) {E : Nat → Value} {Q : Nat → Addr} (hE : Errs F E Q) {p : Value} {n : Int} (hn : n < 1 ∨ 16384 < n) : Ret Tryd.prog 23 [p, .int .i64 n] w fun v w' => v = .tuple #[.slice none 0 0, E 7] ∧ Hp w0 w' F := by
  refine Calls.of_J (n := 72) Tryd.func23 rfl rfl rfl ?_
  refine J.seq ?_
  refine J.region ?_
  refine JL.go trivial (RX.assign) ?_
  refine JL.go trivial (RX.assign) ?_
  refine JL.nil ?_
  refine J.seq ?_
  refine J.seq ?_
  refine J.region ?_
  refine JL.go trivial (RX.movev (v := Value.int _ _) rfl) ?_
  refine JL.go trivial (RX.lt rfl rfl) ?_
  refine JL.go trivial (RX.movev (v := Value.bool _) rfl) ?_
  refine JL.splitS 14 rfl (fun h1 => ?_) (fun h1 => ?_)
  · skip
    first | have h1p := of_decide_eq_true h1 | skip
    refine JL.no ⟨_, rfl, gno h1⟩ ?_
    refine JL.no ⟨_, rfl, gno h1⟩ ?_
    refine JL.go trivial (RX.pick_t rfl h1) ?_
    refine JL.nil ?_
    refine J.cond_t rfl rfl ?_
    refine J.seq ?_
    refine J.quietH H hmix (by kernel_rfl) ?_
    refine JQ.go trivial (fun w H => RX.loadG H rfl (hE.at_ 7 (by decide) (by decide)).at_ one28) ?_
    refine JQ.go trivial (fun w H => RX.assign) ?_
    refine JQ.go trivial (fun w H => RX.assignv (v := E 7) rfl) ?_
    refine JQ.nil fun w H => ?_
    refine J.ret2 (v := Value.slice _ _ _) Tryd.func23 rfl rfl rfl ?_
    exact ⟨_, rfl, rfl, H⟩
  · skip
    first | have h1p := of_decide_eq_false h1 | skip
    have h1q := of_decide_eq_false h1
    refine JL.go ⟨_, rfl, h1⟩ (RX.movev (v := Value.int _ _) rfl) ?_
    refine JL.go ⟨_, rfl, h1⟩ (RX.gt rfl rfl) ?_
    refine JL.go trivial (RX.pick_f rfl h1) ?_
    refine JL.nil ?_
    refine J.cond_d rfl (fun h2 => ?_) (fun h2 => ?_)
    · skip
      refine J.seq ?_
      refine J.quietH H hmix (by kernel_rfl) ?_
      refine JQ.go trivial (fun w H => RX.loadG H rfl (hE.at_ 7 (by decide) (by decide)).at_ one28) ?_
      refine JQ.go trivial (fun w H => RX.assign) ?_
      refine JQ.go trivial (fun w H => RX.assignv (v := E 7) rfl) ?_
      refine JQ.nil fun w H => ?_
      refine J.ret2 (v := Value.slice _ _ _) Tryd.func23 rfl rfl rfl ?_
      exact ⟨_, rfl, rfl, H⟩
    · skip
      exfalso; omega
theorem At_b {w0 w : World} {F : List Seg} {t : Nat} {s : TS} (H : Hp w0 w (s.tb t 0 :: s.mp :: s.ts :: F)) (ok : s.ok) {n k : Int} (hn : 1 ≤ n) (hn2 : n ≤ 16384) (hmm : s.m < 9223372036854775807) (hk : i64ok k) : Ret Tryd.prog 9 [.pointer (some ⟨t, 0, none⟩), .int .i64 n, .int .i64 k] w fun v w' => ∃ s' a b, v = .tuple #[.complex .f64 a b, .nilIface] ∧ cn a = (rootN n k).1 ∧ cn b = (rootN n k).2 ∧ s'.ok ∧ Asked n s s' ∧ Hp w0 w' (s'.tb t 0 :: s'.mp :: s'.ts :: F) := by
  refine Calls.of_J (n := 31) Tryd.func9 rfl rfl rfl ?_
  refine J.seq ?_
  refine J.region ?_
  refine JL.go trivial (RX.assign) ?_
  refine JL.go trivial (RX.assign) ?_
  refine JL.nil ?_
  refine J.seq ?_
  refine J.region ?_
  refine JL.go trivial (RX.movev (v := Value.pointer _) rfl) ?_
  refine JL.go trivial (RX.movev (v := Value.int _ _) rfl) ?_
  refine JL.does trivial (EX.call rfl cl23 rfl ((table_b H ok hn hn2 hmm))) ?_
  rintro _ w ⟨s', b1, xs, rfl, ok', ⟨hts, hrow⟩, hask, H⟩
  refine JL.go trivial (RX.movev (v := Value.tuple _) rfl) ?_
  refine JL.go trivial (RX.extract rfl rfl) ?_
  refine JL.go trivial (RX.extract rfl rfl) ?_
  refine JL.go trivial (RX.assignv (v := Value.slice _ _ _) rfl) ?_
  refine JL.go trivial (RX.assign) ?_
  refine JL.nil ?_
  refine J.seq ?_
  refine J.seq ?_
  refine J.region ?_
  refine JL.go trivial (RX.move) ?_
  refine JL.go trivial (RX.ifnil_neq rfl rfl rfl if28) ?_
  refine JL.nil ?_
  refine J.cond_f rfl rfl ?_
  refine J.skip ?_
  refine J.seq ?_
  have e1 := Int.tmod_lt_of_pos k (show 0 < n by omega)
  have e2 := Int.lt_tmod_of_pos k (show 0 < n by omega)
  have m0 := Int.emod_nonneg k (show n ≠ 0 by omega)
  have m1 := Int.emod_lt_of_pos k (show 0 < n by omega)
  obtain ⟨j, hj⟩ : ∃ j : Nat, k % n = (j : Int) := ⟨(k % n).toNat, by omega⟩
  obtain ⟨a, b, hab, ha, hb⟩ := cell_row hrow.2 (k := j) (by omega)
  rw [← hj, rootN_mod] at ha hb
  refine J.region ?_
  refine JL.go trivial (RX.movev (v := Value.int _ _) rfl) ?_
  refine JL.go trivial (RX.movev (v := Value.int _ _) rfl) ?_
  refine JL.go trivial (RX.rem rfl rfl (by omega) rfl) ?_
  refine JL.go trivial (RX.assignv (v := Value.int _ _) rfl) ?_
  refine JL.nil ?_
  refine J.seq ?_
  refine J.seq ?_
  refine J.region ?_
  refine JL.go trivial (RX.movev (v := Value.int _ _) rfl) ?_
  refine JL.go trivial (RX.lt rfl rfl) ?_
  refine JL.nil ?_
  refine J.cond_d rfl (fun hneg => ?_) (fun hneg => ?_)
  · skip
    refine J.region ?_
    refine JL.go trivial (RX.movev (v := Value.int _ _) rfl) ?_
    refine JL.go trivial (RX.movev (v := Value.int _ _) rfl) ?_
    refine JL.go trivial (RX.add rfl rfl (w_i64 (r := (j : Int)) (by rw [tmod_neg (by omega) hneg]; exact hj) (by omega) (by omega))) ?_
    refine JL.go trivial (RX.assignv (v := Value.int _ _) rfl) ?_
    refine JL.nil ?_
    refine J.seq ?_
    refine J.region ?_
    refine JL.go trivial (RX.movev (v := Value.slice _ _ _) rfl) ?_
    refine JL.go trivial (RX.movev (v := Value.int _ _) rfl) ?_
    refine JL.go trivial (RX.indexAddr rfl rfl sl31 (by omega) (by omega) (o' := j) (by omega)) ?_
    refine JL.go trivial (RX.loadm H rfl (i := 2) rfl hts hab one26) ?_
    refine JL.go trivial (RX.assignv (v := Value.complex _ _ _) rfl) ?_
    refine JL.go trivial (RX.assign) ?_
    refine JL.nil ?_
    refine J.ret2 (v := Value.complex _ _ _) Tryd.func9 rfl rfl rfl ?_
    exact ⟨_, rfl, s', a, b, rfl, ha, hb, ok', hask, H⟩
  · skip
    have htj : k.tmod n = (j : Int) := by rw [tmod_pos (by omega) hneg]; exact hj
    refine J.skip ?_
    refine J.seq ?_
    refine J.region ?_
    refine JL.go trivial (RX.movev (v := Value.slice _ _ _) rfl) ?_
    refine JL.go trivial (RX.movev (v := Value.int _ _) rfl) ?_
    refine JL.go trivial (RX.indexAddr rfl rfl sl31 (by omega) (by omega) (o' := j) (by omega)) ?_
    refine JL.go trivial (RX.loadm H rfl (i := 2) rfl hts hab one26) ?_
    refine JL.go trivial (RX.assignv (v := Value.complex _ _ _) rfl) ?_
    refine JL.go trivial (RX.assign) ?_
    refine JL.nil ?_
    refine J.ret2 (v := Value.complex _ _ _) Tryd.func9 rfl rfl rfl ?_
    exact ⟨_, rfl, s', a, b, rfl, ha, hb, ok', hask, H⟩
theorem At_e {w0 w : World} {F : List Seg} (H : Hp w0 w F) {E : Nat → Value} {Q : Nat → Addr} (hE : Errs F E Q) {p : Nat} {n : Int} (hn : n < 1 ∨ 16384 < n) {k : Int} : Ret Tryd.prog 9 [.pointer (some ⟨p, 0, none⟩), .int .i64 n, .int .i64 k] w fun v w' => v = .tuple #[.complex .f64 0 0, E 7] ∧ Hp w0 w' F := by
  refine Calls.of_J (n := 31) Tryd.func9 rfl rfl rfl ?_
  refine J.seq ?_
  refine J.region ?_
  refine JL.go trivial (RX.assign) ?_
  refine JL.go trivial (RX.assign) ?_
  refine JL.nil ?_
  refine J.seq ?_
  refine J.region ?_
  refine JL.go trivial (RX.movev (v := Value.pointer _) rfl) ?_
  refine JL.go trivial (RX.movev (v := Value.int _ _) rfl) ?_
  refine JL.does trivial (EX.call rfl cl23 rfl ((table_e H hE hn))) ?_
  rintro _ w ⟨rfl, H⟩
  refine JL.go trivial (RX.movev (v := Value.tuple _) rfl) ?_
  refine JL.go trivial (RX.extract rfl rfl) ?_
  refine JL.go trivial (RX.extract (v := E 7) rfl rfl) ?_
  refine JL.go trivial (RX.assignv (v := Value.slice _ _ _) rfl) ?_
  refine JL.go trivial (RX.assignv (v := E 7) rfl) ?_
  refine JL.nil ?_
  refine J.seq ?_
  refine J.seq ?_
  refine J.region ?_
  refine JL.go trivial (RX.movev (v := E 7) rfl) ?_
  refine JL.go trivial (RX.ifnil_neq (v := E 7) rfl rfl (hE.at_ 7 (by decide) (by decide)).ie if28) ?_
  refine JL.nil ?_
  refine J.cond_t rfl (by rw [(hE.at_ 7 (by decide) (by decide)).nn]; rfl) ?_
  refine J.seq ?_
  refine J.region ?_
  refine JL.go trivial (RX.movev (v := E 7) rfl) ?_
  refine JL.go trivial (RX.assign) ?_
  refine JL.go trivial (RX.assignv (v := E 7) rfl) ?_
  refine JL.nil ?_
  refine J.ret2 (v := Value.complex _ _ _) Tryd.func9 rfl rfl rfl ?_
  exact ⟨_, rfl, rfl, H⟩

section
variable {P : Program} {w w0 : World} {L : List Seg} {ρ : Operand → Value} {d : Option Tmp} {x y : Operand} {ty : TypeId} {pos : String} {af : Array Edge} {g : Option (Nat × Bool)}
theorem RX.lookupAny {t kt et b c : Nat} {zv v : Value} {l : List MEn} {k : Int} {s : Seg} {i : Nat} {q : Bool} (H : Hp w0 w L) (hx : ρ x = .map (some b)) (hy : ρ y = .int .i64 k) (hi : L[i]? = some s) (hm : (b, mapO l c) ∈ s) (hT : MapTy P t kt et zv) (hv : ((lookE l k).map (·.val)).getD zv = v) (hq : (lookE l k).isSome = q) :
    Runs P ρ ⟨d, .lookup t x y true, ty, pos, af, g⟩ w (.tuple #[v, .bool q]) := by
  have h := RX.lookupOk (d := d) (ty := ty) (pos := pos) (af := af) (g := g) H hx hy hi hm hT
  rw [hv, hq] at h
  exact h
end
theorem slAt_mem {L : List Seg} {b : Nat} {xs : List Value} {T : TypeId} (h : (b, cel xs T) ∈ L.flatten) : SlAt L (some ⟨b, 0, none⟩) xs := .inr ⟨b, 0, xs.toArray, T, (0, 0), rfl, h, fun j _ => by simp⟩
theorem row_cell {n : Int} {xs : List Value} (h : RowOf n xs) : ∀ v ∈ xs, isCell v = true := by
  intro v hv
  obtain ⟨i, hi⟩ := List.mem_iff_getElem?.1 hv
  have hl := (List.getElem?_eq_some_iff.1 hi).1
  obtain ⟨a, b, e, _⟩ := h.2 i (by rw [← h.1]; exact hl)
  rw [hi] at e
  cases e
  rfl
theorem drop_keys (l : List MEn) (n : Int) : (dropE l n).map MEn.key = (l.map MEn.key).erase n := by
  induction l with
  | nil => rfl
  | cons a l ih =>
    unfold dropE at ih ⊢
    by_cases h : a.key = n
    · rw [List.eraseP_cons_of_pos (by simpa using h), List.map_cons, h, List.erase_cons_head]
    · rw [List.eraseP_cons_of_neg (by simpa using h), List.map_cons, List.map_cons, List.erase_cons_tail (by simpa using h), ih]
theorem drop_sub (l : List MEn) (n : Int) : (dropE l n).Sublist l := List.eraseP_sublist
def TS.drop (s : TS) (n : Int) : TS := ⟨s.mb, dropE s.l n, s.c, s.m, s.ts⟩
theorem TS.drop_keys (s : TS) (n : Int) : (s.drop n).keys = s.keys.erase n := Go.Proofs.YtmppcnbkfjeabaaDoor.drop_keys s.l n
theorem TS.ok.drop {s : TS} (h : s.ok) (n : Int) : (s.drop n).ok :=
  ⟨fun e he => h.born e ((drop_sub s.l n).subset he), ((drop_sub s.l n).map _).nodup h.nd, ((drop_sub s.l n).map _).nodup h.ndk, fun e he => h.rng e ((drop_sub s.l n).subset he), fun e he => h.tab e ((drop_sub s.l n).subset he), h.made⟩
def newTS (mb : Nat) : TS := ⟨mb, [], 0, 0, []⟩
theorem newTS_ok (mb : Nat) : (newTS mb).ok := ⟨fun _ h => (by cases h), List.nodup_nil, List.nodup_nil, fun _ h => (by cases h), fun _ h => (by cases h), by show (0 : Int) ≤ 0; omega⟩
theorem look_val (s : TS) (ok : s.ok) (n : Int) : ∃ p a c, ((lookE s.l n).map (·.val)).getD (.slice none 0 0) = .slice p a c ∧ (lookE s.l n).isSome = decide (n ∈ s.keys) := by
  by_cases h : n ∈ s.keys
  · obtain ⟨e, he, _, hl⟩ := look_mem h
    obtain ⟨b, xs, hv, _⟩ := ok.tab e he
    exact ⟨some ⟨b, 0, none⟩, e.key.toNat, e.key.toNat, by rw [hl]; exact hv, by rw [hl, decide_eq_true h]; rfl⟩
  · refine ⟨none, 0, 0, ?_, ?_⟩
    · rw [look_not h]; rfl
    · rw [look_not h, decide_eq_false h]; rfl

theorem clone_b {w0 w : World} {F : List Seg} (H : Hp w0 w F) {b N : Nat} {xs : List Value} (hs : SlAt F (some ⟨b, 0, none⟩) xs) (hl : xs.length = N) (hN : N ≤ 16384) (hc : ∀ v ∈ xs, isCell v = true) : Ret Tryd.prog 24 [.slice (some ⟨b, 0, none⟩) N N] w fun v w' => ∃ q c sl, v = .slice q N c ∧ OwnSl 26 1 q N c xs sl ∧ Hp w0 w' (sl :: F) := by
  refine Calls.of_J (n := 8) Tryd.func24 rfl rfl rfl ?_
  refine J.seq ?_
  refine J.region ?_
  refine JL.go trivial (RX.assign) ?_
  refine JL.nil ?_
  refine J.seq ?_
  refine J.seq ?_
  refine J.region ?_
  refine JL.go trivial (RX.movev (v := Value.slice _ _ _) rfl) ?_
  refine JL.go trivial (RX.slnil_eql rfl rfl ud31) ?_
  refine JL.nil ?_
  refine J.cond_f rfl rfl ?_
  refine J.skip ?_
  refine J.seq ?_
  refine J.region ?_
  refine JL.does trivial (EX.buildSlice0 H elC) ?_
  rintro _ w ⟨b0, rfl, H⟩
  refine JL.go trivial (RX.movev (v := Value.slice _ _ _) rfl) ?_
  refine JL.does trivial (EX.append (ys := xs) (L' := fun s' => s' :: F) H elC rfl rfl (i := 0) rfl OwnSl.empty hs.cons (by omega) hc (by decide) (by omega) (by omega) (fun _ => rfl)) ?_
  rintro _ w ⟨q, c, sl, rfl, ho, H⟩
  refine JL.go trivial (RX.assignv (v := Value.slice _ _ _) rfl) ?_
  refine JL.nil ?_
  refine J.ret1 (v := Value.slice _ _ _) Tryd.func24 rfl rfl ?_
  rw [Nat.zero_add] at ho ⊢
  exact ⟨_, rfl, q, c, sl, rfl, ho, H⟩
theorem clone_nil {w0 w : World} {F : List Seg} (H : Hp w0 w F) : Ret Tryd.prog 24 [.slice none 0 0] w fun v w' => v = .slice none 0 0 ∧ Hp w0 w' F := by
  refine Calls.of_J (n := 8) Tryd.func24 rfl rfl rfl ?_
  refine J.seq ?_
  refine J.region ?_
  refine JL.go trivial (RX.assign) ?_
  refine JL.nil ?_
  refine J.seq ?_
  refine J.seq ?_
  refine J.region ?_
  refine JL.go trivial (RX.movev (v := Value.slice _ _ _) rfl) ?_
  refine JL.go trivial (RX.slnil_eql rfl rfl ud31) ?_
  refine JL.nil ?_
  refine J.cond_t rfl rfl ?_
  refine J.seq ?_
  refine J.region ?_
  refine JL.go trivial (RX.assign) ?_
  refine JL.nil ?_
  refine J.ret1 (v := Value.slice _ _ _) Tryd.func24 rfl rfl ?_
  exact ⟨_, rfl, rfl, H⟩
theorem List_b {w0 w : World} {F : List Seg} {t : Nat} {s : TS} (H : Hp w0 w (s.tb t 0 :: s.mp :: s.ts :: F)) (ok : s.ok) {n : Int} (hn : 1 ≤ n) (hn2 : n ≤ 16384) (hmm : s.m < 9223372036854775807) : Ret Tryd.prog 10 [.pointer (some ⟨t, 0, none⟩), .int .i64 n] w fun v w' => ∃ s' q c xs sl, v = .tuple #[.slice q n.toNat c, .nilIface] ∧ OwnSl 26 1 q n.toNat c xs sl ∧ RowOf n xs ∧ s'.ok ∧ Asked n s s' ∧ Hp w0 w' (sl :: s'.tb t 0 :: s'.mp :: s'.ts :: F) := by
  refine Calls.of_J (n := 17) Tryd.func10 rfl rfl rfl ?_
  refine J.seq ?_
  refine J.region ?_
  refine JL.go trivial (RX.assign) ?_
  refine JL.go trivial (RX.assign) ?_
  refine JL.nil ?_
  refine J.seq ?_
  refine J.region ?_
  refine JL.go trivial (RX.movev (v := Value.pointer _) rfl) ?_
  refine JL.go trivial (RX.movev (v := Value.int _ _) rfl) ?_
  refine JL.does trivial (EX.call rfl cl23 rfl ((table_b H ok hn hn2 hmm))) ?_
  rintro _ w ⟨s', b1, xs, rfl, ok', ⟨hts, hrow⟩, hask, H⟩
  refine JL.go trivial (RX.movev (v := Value.tuple _) rfl) ?_
  refine JL.go trivial (RX.extract rfl rfl) ?_
  refine JL.go trivial (RX.extract rfl rfl) ?_
  refine JL.go trivial (RX.assignv (v := Value.slice _ _ _) rfl) ?_
  refine JL.go trivial (RX.assign) ?_
  refine JL.nil ?_
  refine J.seq ?_
  refine J.region ?_
  refine JL.go trivial (RX.movev (v := Value.slice _ _ _) rfl) ?_
  refine JL.does trivial (EX.call rfl cl24 rfl ((clone_b H (slAt_mem (by simp only [List.flatten_cons, List.mem_append]; exact .inr (.inr (.inl hts)))) hrow.1 (by omega) (row_cell hrow)))) ?_
  rintro _ w ⟨q, c, sl, rfl, ho, H⟩
  refine JL.go trivial (RX.move) ?_
  refine JL.go trivial (RX.assignv (v := Value.slice _ _ _) rfl) ?_
  refine JL.go trivial (RX.assign) ?_
  refine JL.nil ?_
  refine J.ret2 (v := Value.slice _ _ _) Tryd.func10 rfl rfl rfl ?_
  exact ⟨_, rfl, s', q, c, xs, sl, rfl, ho, hrow, ok', hask, H⟩
theorem List_e {w0 w : World} {F : List Seg} (H : Hp w0 w F) {E : Nat → Value} {Q : Nat → Addr} (hE : Errs F E Q) {p : Nat} {n : Int} (hn : n < 1 ∨ 16384 < n) : Ret Tryd.prog 10 [.pointer (some ⟨p, 0, none⟩), .int .i64 n] w fun v w' => v = .tuple #[.slice none 0 0, E 7] ∧ Hp w0 w' F := by
  refine Calls.of_J (n := 17) Tryd.func10 rfl rfl rfl ?_
  refine J.seq ?_
  refine J.region ?_
  refine JL.go trivial (RX.assign) ?_
  refine JL.go trivial (RX.assign) ?_
  refine JL.nil ?_
  refine J.seq ?_
  refine J.region ?_
  refine JL.go trivial (RX.movev (v := Value.pointer _) rfl) ?_
  refine JL.go trivial (RX.movev (v := Value.int _ _) rfl) ?_
  refine JL.does trivial (EX.call rfl cl23 rfl ((table_e H hE hn))) ?_
  rintro _ w ⟨rfl, H⟩
  refine JL.go trivial (RX.movev (v := Value.tuple _) rfl) ?_
  refine JL.go trivial (RX.extract rfl rfl) ?_
  refine JL.go trivial (RX.extract (v := E 7) rfl rfl) ?_
  refine JL.go trivial (RX.assignv (v := Value.slice _ _ _) rfl) ?_
  refine JL.go trivial (RX.assignv (v := E 7) rfl) ?_
  refine JL.nil ?_
  refine J.seq ?_
  refine J.region ?_
  refine JL.go trivial (RX.movev (v := Value.slice _ _ _) rfl) ?_
  refine JL.does trivial (EX.call rfl cl24 rfl ((clone_nil H))) ?_
  rintro _ w ⟨rfl, H⟩
  refine JL.go trivial (RX.movev (v := E 7) rfl) ?_
  refine JL.go trivial (RX.assignv (v := Value.slice _ _ _) rfl) ?_
  refine JL.go trivial (RX.assignv (v := E 7) rfl) ?_
  refine JL.nil ?_
  refine J.ret2 (v := Value.slice _ _ _) Tryd.func10 rfl rfl rfl ?_
  exact ⟨_, rfl, rfl, H⟩
theorem Made_b {w0 w : World} {F : List Seg} {t : Nat} {s : TS} (H : Hp w0 w (s.tb t 0 :: s.mp :: s.ts :: F)) : Ret Tryd.prog 12 [.pointer (some ⟨t, 0, none⟩)] w fun v w' => v = .int .i64 s.m ∧ Hp w0 w' (s.tb t 0 :: s.mp :: s.ts :: F) := by
  refine Calls.of_J (n := 14) Tryd.func12 rfl rfl rfl ?_
  refine J.seq ?_
  refine J.region ?_
  refine JL.go trivial (RX.assign) ?_
  refine JL.nil ?_
  refine J.seq ?_
  refine J.region ?_
  refine JL.go trivial (RX.movev (v := Value.pointer _) rfl) ?_
  refine JL.go trivial (RX.nilCheck rfl) ?_
  refine JL.go trivial (RX.fieldAddr rfl fo66_0 rfl) ?_
  refine JL.does trivial (EX.call rfl cl26 rfl ((lock_r muLib H (i := 0) rfl rfl))) ?_
  rintro _ w ⟨rfl, H⟩
  replace H : Hp w0 w (s.tb t 1 :: s.mp :: s.ts :: F) := H
  refine JL.nil ?_
  refine J.seq ?_
  refine J.regionD (dd := { target := .fn (.func 27) #[], args := #[.pointer (some ⟨t, 0, none⟩)] }) ?_
  refine JLd.go trivial (RX.movev (v := Value.pointer _) rfl) ?_
  refine JLd.go trivial (RX.nilCheck rfl) ?_
  refine JLd.go trivial (RX.fieldAddr rfl fo66_0 rfl) ?_
  refine JLd.defer rfl rfl (run_deferA rfl rfl) ?_
  refine J.seq ?_
  refine J.region ?_
  refine JL.go trivial (RX.movev (v := Value.pointer _) rfl) ?_
  refine JL.go trivial (RX.nilCheck rfl) ?_
  refine JL.go trivial (RX.fieldAddr rfl fo66_2 rfl) ?_
  refine JL.go trivial (RX.load H rfl (i := 0) (v := .int .i64 s.m) rfl rfl one3) ?_
  refine JL.go trivial (RX.assignv (v := Value.int _ _) rfl) ?_
  refine JL.nil ?_
  refine J.unlock muLib Tryd.func12 H (i := 0) rfl rfl (unl1 (v := Value.int _ _) rfl rfl ) ?_
  intro w H
  exact ⟨_, rfl, rfl, H⟩
theorem Drop_b {w0 w : World} {F : List Seg} {t : Nat} {s : TS} (H : Hp w0 w (s.tb t 0 :: s.mp :: s.ts :: F)) (ok : s.ok) {n : Int} : Ret Tryd.prog 13 [.pointer (some ⟨t, 0, none⟩), .int .i64 n] w fun v w' => v = .bool (decide (n ∈ s.keys)) ∧ Hp w0 w' ((s.drop n).tb t 0 :: (s.drop n).mp :: (s.drop n).ts :: F) := by
  refine Calls.of_J (n := 29) Tryd.func13 rfl rfl rfl ?_
  refine J.seq ?_
  refine J.region ?_
  refine JL.go trivial (RX.assign) ?_
  refine JL.nil ?_
  refine J.seq ?_
  refine J.region ?_
  refine JL.go trivial (RX.movev (v := Value.pointer _) rfl) ?_
  refine JL.go trivial (RX.nilCheck rfl) ?_
  refine JL.go trivial (RX.fieldAddr rfl fo66_0 rfl) ?_
  refine JL.does trivial (EX.call rfl cl26 rfl ((lock_r muLib H (i := 0) rfl rfl))) ?_
  rintro _ w ⟨rfl, H⟩
  replace H : Hp w0 w (s.tb t 1 :: s.mp :: s.ts :: F) := H
  refine JL.nil ?_
  refine J.seq ?_
  refine J.regionD (dd := { target := .fn (.func 27) #[], args := #[.pointer (some ⟨t, 0, none⟩)] }) ?_
  refine JLd.go trivial (RX.movev (v := Value.pointer _) rfl) ?_
  refine JLd.go trivial (RX.nilCheck rfl) ?_
  refine JLd.go trivial (RX.fieldAddr rfl fo66_0 rfl) ?_
  refine JLd.defer rfl rfl (run_deferA rfl rfl) ?_
  refine J.seq ?_
  obtain ⟨p1, a1, c1, hv, hq⟩ := look_val s ok n
  refine J.region ?_
  refine JL.go trivial (RX.movev (v := Value.pointer _) rfl) ?_
  refine JL.go trivial (RX.nilCheck rfl) ?_
  refine JL.go trivial (RX.fieldAddr rfl fo66_1 rfl) ?_
  refine JL.go trivial (by first | exact RX.load H rfl (i := 0) rfl rfl one57 | exact RX.load H rfl (i := 1) rfl rfl one57 | exact RX.load H rfl (i := 2) rfl rfl one57 | exact RX.load H rfl (i := 3) rfl rfl one57 | exact RX.load H rfl (i := 4) rfl rfl one57 | exact RX.load H rfl (i := 5) rfl rfl one57) ?_
  refine JL.go trivial (RX.movev (v := Value.int _ _) rfl) ?_
  refine JL.go trivial (RX.lookupAny H rfl rfl (i := 1) rfl (List.mem_singleton.2 rfl) mapT hv hq) ?_
  refine JL.go trivial (RX.movev (v := Value.tuple _) rfl) ?_
  refine JL.go trivial (RX.extract rfl rfl) ?_
  refine JL.go trivial (RX.extract rfl rfl) ?_
  refine JL.go trivial (RX.assignv (v := Value.slice _ _ _) rfl) ?_
  refine JL.go trivial (RX.assignv (v := Value.bool _) rfl) ?_
  refine JL.nil ?_
  refine J.seq ?_
  refine J.region ?_
  refine JL.go trivial (RX.movev (v := Value.pointer _) rfl) ?_
  refine JL.go trivial (RX.nilCheck rfl) ?_
  refine JL.go trivial (RX.fieldAddr rfl fo66_1 rfl) ?_
  refine JL.go trivial (by first | exact RX.load H rfl (i := 0) rfl rfl one57 | exact RX.load H rfl (i := 1) rfl rfl one57 | exact RX.load H rfl (i := 2) rfl rfl one57 | exact RX.load H rfl (i := 3) rfl rfl one57 | exact RX.load H rfl (i := 4) rfl rfl one57 | exact RX.load H rfl (i := 5) rfl rfl one57) ?_
  refine JL.go trivial (RX.movev (v := Value.int _ _) rfl) ?_
  refine JL.does trivial (EX.delete H rfl rfl (i := 1) rfl mapT) ?_
  rintro _ w ⟨_, H⟩
  replace H : Hp w0 w ((s.drop n).tb t 1 :: (s.drop n).mp :: (s.drop n).ts :: F) := H
  refine JL.nil ?_
  refine J.seq ?_
  refine J.region ?_
  refine JL.go trivial (RX.movev (v := Value.bool _) rfl) ?_
  refine JL.go trivial (RX.assignv (v := Value.bool _) rfl) ?_
  refine JL.nil ?_
  refine J.unlock muLib Tryd.func13 H (i := 0) rfl rfl (unl1 (v := Value.bool _) rfl rfl ) ?_
  intro w H
  exact ⟨_, rfl, rfl, H⟩
theorem New_b {w0 w : World} {F : List Seg} (H : Hp w0 w F) : Ret Tryd.prog 8 [] w fun v w' => ∃ t mb, v = .pointer (some ⟨t, 0, none⟩) ∧ Hp w0 w' ((newTS mb).tb t 0 :: (newTS mb).mp :: (newTS mb).ts :: F) := by
  refine Calls.of_J (n := 4) Tryd.func8 rfl rfl rfl ?_
  refine J.seq ?_
  refine J.region ?_
  refine JL.go trivial (RX.assign) ?_
  refine JL.nil ?_
  refine J.seq ?_
  refine J.region ?_
  refine JL.does trivial (EX.makeMap H) ?_
  rintro _ w ⟨mb, rfl, H⟩
  refine JL.go trivial (RX.build (pv := [(1, .map (some mb))]) (res := [.int .i32 0, .int .u32 0, .map (some mb), .int .i64 0]) rfl (by kernel_rfl)) ?_
  refine JL.does trivial (EX.box (v := Value.agg _) H rfl rfl) ?_
  rintro _ w ⟨t, rfl, H⟩
  refine JL.go trivial (RX.assignv (v := Value.pointer _) rfl) ?_
  refine JL.nil ?_
  refine J.ret1 (v := Value.pointer _) Tryd.func8 rfl rfl ?_
  exact ⟨_, rfl, t, mb, rfl, (H.nil.pull 2 rfl).pull 2 rfl⟩
theorem rBits_b {w0 w : World} {F : List Seg} (H : Hp w0 w F) {x : Nat} : Ret Tryd.prog 42 [.float .f64 x] w fun v w' => v = .int .u64 (cn x : Nat) ∧ Hp w0 w' F := by
  refine Calls.of_J (n := 10) Tryd.func42 rfl rfl rfl ?_
  refine J.seq ?_
  refine J.region ?_
  refine JL.go trivial (RX.assign) ?_
  refine JL.nil ?_
  refine J.seq ?_
  refine J.region ?_
  refine JL.go trivial (RX.movev (v := Value.float _ _) rfl) ?_
  refine JL.go trivial (RX.ext ext61 rfl rfl (v := Value.int _ _) rfl) ?_
  refine JL.go trivial (RX.assignv (v := Value.int _ _) rfl) ?_
  refine JL.nil ?_
  refine J.seq ?_
  refine J.seq ?_
  refine J.region ?_
  refine JL.go trivial (RX.movev (v := Value.int _ _) rfl) ?_
  refine JL.go trivial (RX.rem rfl rfl (by decide) (r := ((x % 9223372036854775808 : Nat) : Int)) (by rw [Int.tmod_eq_emod_of_nonneg (by omega)]; omega)) ?_
  refine JL.go trivial (RX.gt rfl rfl) ?_
  refine JL.nil ?_
  refine J.cond_d rfl (fun h0 => ?_) (fun h0 => ?_)
  · skip
    refine J.seq ?_
    refine J.region ?_
    refine JL.go trivial (RX.assign) ?_
    refine JL.nil ?_
    refine J.ret1 (v := Value.int _ _) Tryd.func42 rfl rfl ?_
    exact ⟨_, rfl, by rw [cn_nan (show fnan x = true from decide_eq_true (by omega))]; rfl, H⟩
  · skip
    refine J.skip ?_
    refine J.seq ?_
    refine J.region ?_
    refine JL.go trivial (RX.movev (v := Value.int _ _) rfl) ?_
    refine JL.go trivial (RX.assignv (v := Value.int _ _) rfl) ?_
    refine JL.nil ?_
    refine J.ret1 (v := Value.int _ _) Tryd.func42 rfl rfl ?_
    exact ⟨_, rfl, by rw [cn_fin (show fnan x = false from decide_eq_false (by omega))], H⟩
theorem rSame1_b {w0 w : World} {F : List Seg} (H : Hp w0 w F) {x y : Nat} : Ret Tryd.prog 30 [.float .f64 x, .float .f64 y] w fun v w' => v = .bool (decide (cn x = cn y)) ∧ Hp w0 w' F := by
  refine Calls.of_J (n := 10) Tryd.func30 rfl rfl rfl ?_
  refine J.seq ?_
  refine J.region ?_
  refine JL.go trivial (RX.assign) ?_
  refine JL.nil ?_
  refine J.seq ?_
  refine J.region ?_
  refine JL.go trivial (RX.movev (v := Value.float _ _) rfl) ?_
  refine JL.does trivial (EX.call rfl cl42 rfl ((rBits_b H))) ?_
  rintro _ w ⟨rfl, H⟩
  refine JL.go trivial (RX.movev (v := Value.float _ _) rfl) ?_
  refine JL.does trivial (EX.call rfl cl42 rfl ((rBits_b H))) ?_
  rintro _ w ⟨rfl, H⟩
  refine JL.go trivial (RX.eq rfl rfl) ?_
  refine JL.go trivial (RX.assignv (v := Value.bool _) rfl) ?_
  refine JL.nil ?_
  refine J.ret1 (v := Value.bool _) Tryd.func30 rfl rfl ?_
  exact ⟨_, rfl, congrArg Value.bool (decide_eq_decide.2 (by omega)), H⟩
theorem rSame2_b {w0 w : World} {F : List Seg} (H : Hp w0 w F) {a b c d : Nat} : Ret Tryd.prog 15 [.complex .f64 a b, .complex .f64 c d] w fun v w' => v = .bool (decide (cn a = cn c ∧ cn b = cn d)) ∧ Hp w0 w' F := by
  refine Calls.of_J (n := 17) Tryd.func15 rfl rfl rfl ?_
  refine J.seq ?_
  refine J.region ?_
  refine JL.go trivial (RX.assign) ?_
  refine JL.nil ?_
  refine J.seq ?_
  refine J.region ?_
  refine JL.go trivial (RX.movev (v := Value.complex _ _ _) rfl) ?_
  refine JL.go trivial (RX.real rfl) ?_
  refine JL.go trivial (RX.movev (v := Value.complex _ _ _) rfl) ?_
  refine JL.go trivial (RX.real rfl) ?_
  refine JL.does trivial (EX.call rfl cl30 rfl ((rSame1_b H))) ?_
  rintro _ w ⟨rfl, H⟩
  refine JL.go trivial (RX.movev (v := Value.bool _) rfl) ?_
  refine JL.splitS 10 rfl (fun h0 => ?_) (fun h0 => ?_)
  · skip
    first | have h0p := of_decide_eq_true h0 | skip
    refine JL.go ⟨_, rfl, h0⟩ (RX.movev (v := Value.complex _ _ _) rfl) ?_
    refine JL.go ⟨_, rfl, h0⟩ (RX.imag rfl) ?_
    refine JL.go ⟨_, rfl, h0⟩ (RX.movev (v := Value.complex _ _ _) rfl) ?_
    refine JL.go ⟨_, rfl, h0⟩ (RX.imag rfl) ?_
    refine JL.does ⟨_, rfl, h0⟩ (EX.call rfl cl30 rfl ((rSame1_b H))) ?_
    rintro _ w ⟨rfl, H⟩
    refine JL.go trivial (RX.pick_t rfl h0) ?_
    refine JL.go trivial (RX.assignv (v := Value.bool _) rfl) ?_
    refine JL.nil ?_
    refine J.ret1 (v := Value.bool _) Tryd.func15 rfl rfl ?_
    refine ⟨_, rfl, congrArg Value.bool (decide_eq_decide.2 ?_), H⟩
    have := of_decide_eq_true h0
    simp only [this, true_and]
  · skip
    first | have h0p := of_decide_eq_false h0 | skip
    refine JL.no ⟨_, rfl, gno h0⟩ ?_
    refine JL.no ⟨_, rfl, gno h0⟩ ?_
    refine JL.no ⟨_, rfl, gno h0⟩ ?_
    refine JL.no ⟨_, rfl, gno h0⟩ ?_
    refine JL.no ⟨_, rfl, gno h0⟩ ?_
    refine JL.go trivial (RX.pick_f rfl h0) ?_
    refine JL.go trivial (RX.assignv (v := Value.bool _) rfl) ?_
    refine JL.nil ?_
    refine J.ret1 (v := Value.bool _) Tryd.func15 rfl rfl ?_
    refine ⟨_, rfl, congrArg Value.bool (decide_eq_false ?_).symm, H⟩
    have := of_decide_eq_false h0
    exact fun h => this h.1
def AlikeL (xs ys : List Value) : Prop := xs.length = ys.length ∧ ∀ k, k < xs.length → ∃ a b c d, xs[k]? = some (.complex .f64 a b) ∧ ys[k]? = some (.complex .f64 c d) ∧ cn a = cn c ∧ cn b = cn d
theorem RowOf.alike {n : Int} {xs ys : List Value} (h : RowOf n xs) (h2 : RowOf n ys) : AlikeL xs ys := by
  refine ⟨h.1.trans h2.1.symm, fun k hk => ?_⟩
  obtain ⟨a, b, e1, e2, e3⟩ := h.2 k (by rw [← h.1]; exact hk)
  obtain ⟨c, d, f1, f2, f3⟩ := h2.2 k (by rw [← h.1]; exact hk)
  exact ⟨a, b, c, d, e1, f1, e2.trans f2.symm, e3.trans f3.symm⟩
theorem rSameList_b {w0 w : World} {F : List Seg} (H : Hp w0 w F) {p q : Option Addr} {n c c' : Nat} {xs ys : List Value} (hx : SlAt F p xs) (hy : SlAt F q ys) (hl : xs.length = n) (hn : n ≤ 4611686018427387904) (ha : AlikeL xs ys) : Ret Tryd.prog 17 [.slice p n c, .slice q n c'] w fun v w' => v = .bool true ∧ Hp w0 w' F := by
  refine Calls.of_J (n := 27) Tryd.func17 rfl rfl rfl ?_
  refine J.seq ?_
  refine J.region ?_
  refine JL.go trivial (RX.assign) ?_
  refine JL.nil ?_
  refine J.seq ?_
  refine J.seq ?_
  refine J.region ?_
  refine JL.go trivial (RX.movev (v := Value.slice _ _ _) rfl) ?_
  refine JL.go trivial (RX.len_slice rfl (by rw [sl31]; rfl) rfl) ?_
  refine JL.go trivial (RX.movev (v := Value.slice _ _ _) rfl) ?_
  refine JL.go trivial (RX.len_slice rfl (by rw [sl31]; rfl) rfl) ?_
  refine JL.go trivial (RX.ne rfl rfl) ?_
  refine JL.nil ?_
  refine J.cond_f rfl (decide_eq_false (by omega)) ?_
  refine J.skip ?_
  refine J.seq ?_
  refine J.seq ?_
  refine J.region ?_
  refine JL.go trivial (RX.assign) ?_
  refine JL.nil ?_
  refine J.block ?_
  refine J.loop (ι := Nat) (S := fun k => [(5, .int .i64 (k : Nat))]) (Φ := fun k w => k ≤ n ∧ Hp w0 w F) (μ := fun k => n - k) (C := [(0, _), (1, _)]) 0 ⟨rfl, rfl, trivial⟩ ⟨rfl, trivial⟩ ?_ ?_
  · exact ⟨by omega, H⟩
  clear H
  rintro k ρ w ⟨hk, H⟩ IH
  refine J.seq ?_
  refine J.seq ?_
  refine J.region ?_
  refine JL.go trivial (RX.movev (v := Value.int _ _) rfl) ?_
  refine JL.go trivial (RX.movev (v := Value.slice _ _ _) rfl) ?_
  refine JL.go trivial (RX.len_slice rfl (by rw [sl31]; rfl) rfl) ?_
  refine JL.go trivial (RX.lt rfl rfl) ?_
  refine JL.nil ?_
  refine J.cond_d rfl (fun hlt => ?_) (fun hlt => ?_)
  · skip
    obtain ⟨a, b, c2, d2, ga, gb, e1, e2⟩ := ha.2 k (by omega)
    have hll := ha.1
    obtain ⟨bx, ox, rfl, hxx⟩ := hx.some (by omega)
    obtain ⟨by_, oy, rfl, hyy⟩ := hy.some (by omega)
    refine J.skip ?_
    refine J.seq ?_
    refine J.block ?_
    refine J.seq ?_
    refine J.any hmix fun w hs => ?_
    replace H := H.same hs; clear hs
    refine JA.stage (listed := [false, false, false, false, false, false, false, false, false, false]) 8 [0, 1, 2, 3, 4, 5, 6, 7] H (by kernel_rfl) rfl rfl ?_
    refine JI.go rfl trivial (fun w H => RX.movev (v := Value.slice _ _ _) rfl) ?_
    refine JI.go rfl trivial (fun w H => RX.movev (v := Value.int _ _) rfl) ?_
    refine JI.go rfl trivial (fun w H => RX.indexAddr rfl rfl sl31 (by omega) (by omega) (o' := ox + k) (by omega)) ?_
    refine JI.go rfl trivial (fun w H => RX.loadS H hx rfl (j := k) rfl ga one26) ?_
    refine JI.go rfl trivial (fun w H => RX.movev (v := Value.slice _ _ _) rfl) ?_
    refine JI.go rfl trivial (fun w H => RX.movev (v := Value.int _ _) rfl) ?_
    refine JI.go rfl trivial (fun w H => RX.indexAddr rfl rfl sl31 (by omega) (by omega) (o' := oy + k) (by omega)) ?_
    refine JI.go rfl trivial (fun w H => RX.loadS H hy rfl (j := k) rfl gb one26) ?_
    refine JI.nil fun w H => ?_
    refine JL.does trivial (EX.call rfl cl15 rfl ((rSame2_b H))) ?_
    rintro _ w ⟨rfl, H⟩
    refine JL.go trivial (RX.not rfl) ?_
    refine JL.nil ?_
    refine J.cond_f rfl (by rw [decide_eq_true (show cn a = cn c2 ∧ cn b = cn d2 from ⟨e1, e2⟩)]; rfl) ?_
    refine J.skip ?_
    refine J.inBlock ?_
    refine J.region ?_
    refine JL.go trivial (RX.movev (v := Value.int _ _) rfl) ?_
    refine JL.go trivial (RX.add rfl rfl (w_i64 (r := ((k + 1 : Nat) : Int)) (by omega) (by omega) (by omega))) ?_
    refine JL.go trivial (RX.assignv (v := Value.int _ _) rfl) ?_
    refine JL.nil ?_
    exact IH (k + 1) _ _ (by omega) ⟨rfl, rfl, trivial⟩ ⟨rfl, trivial⟩ ⟨by omega, H⟩
  · skip
    refine J.exit rfl ?_
    refine J.seq ?_
    refine J.region ?_
    refine JL.go trivial (RX.assign) ?_
    refine JL.nil ?_
    refine J.ret1 (v := Value.bool _) Tryd.func17 rfl rfl ?_
    exact ⟨_, rfl, rfl, H⟩
end Go.Proofs.YtmppcnbkfjeabaaDoor
