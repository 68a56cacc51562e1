/- A listing read. -/
import Derived.Test.YtgkmmbdlclecnaaDoorSp
namespace Go.Proofs.YtgkmmbdlclecnaaDoor
open Go Go.Eng
set_option maxRecDepth 100000
set_option linter.unusedVariables false
set_option linter.unusedSimpArgs false
theorem cl27 : callable Tryd.prog 27 = true := by kernel_rfl
theorem cl28 : callable Tryd.prog 28 = true := by kernel_rfl
theorem cl29 : callable Tryd.prog 29 = true := by kernel_rfl

section
variable {P : Program} {f : FuncId} {n : Nat} {R : Ending → World → Prop} {k : List Item} {σ : Env} {w w0 : World} {L : List Seg}
theorem J.retctt {fn : Func} {a t T b o i sz u s : Nat} {l vs : List Value} {x y : Value} (hf : P.funcs[f]? = some fn) (h : fn.results = #[.cell a t, .tmp u, .tmp s]) (H : Hp w0 w L) (hp : ev n σ (.tmp a) = .pointer (some ⟨b, o, none⟩)) (hi : L[i]? = some [(b, cel l T)])
    (hv : readN l o sz = some vs) (ht : aggOf P t = some sz) (hx : ev n σ (.tmp u) = x) (hy : ev n σ (.tmp s) = y) (hR : R (.returned (.tuple #[.agg vs.toArray, x, y])) w) : J P f n R (.code .ret :: k) σ w :=
  J.ret_of hf (fun a' ha => by
    have h1 := ha.tmp a
    have h2 := ha.tmp u
    have h3 := ha.tmp s
    rw [hp, Array.getD_eq_getD_getElem?] at h1
    rw [hx, Array.getD_eq_getD_getElem?] at h2
    rw [hy, Array.getD_eq_getD_getElem?] at h3
    simp [results, h, h1, h2, h3, asAddr, run_loadAgg H hi hv ht]) hR
end
def RR.prg : RR → Prg
  | .ok p => p
  | .err _ _ => prg0
def RR.line : RR → Nat
  | .ok _ => 0
  | .err l _ => l
def RR.code : RR → Nat
  | .ok _ => 0
  | .err _ c => c
theorem cut_three (r : List UInt8) : ∃ a r' f, Lib.cut r [10] = (a, r', f) ∧ (f = true → r = a ++ 10 :: r' ∧ (10 : UInt8) ∉ a) ∧ (f = false → (10 : UInt8) ∉ r) := by
  rcases cut_one 10 r with ⟨a, r', h1, h2, h3⟩ | ⟨h1, h2⟩
  · exact ⟨a, r', true, h3, fun _ => ⟨h1, h2⟩, (fun h => by cases h)⟩
  · exact ⟨r, [], false, h2, (fun h => by cases h), fun _ => h1⟩
theorem cut_on {b : UInt8} {a r : List UInt8} (h : b ∉ a) : cutL b (a ++ b :: r) = a :: cutL b r := by
  rw [cutL, cutA_no b a [] r h]; rfl
theorem cut_off {b : UInt8} {r : List UInt8} (h : b ∉ r) : cutL b r = [r] := by
  rw [cutL, cutA_end b r [] h]; rfl
/-- What lines ls say, i lines behind. -/
noncomputable def resL (q : Prg) : Nat → List (List UInt8) → RR
  | 0, ls => match ls with
    | [] => .err 1 6
    | [_] => .err 1 6
    | l :: l2 :: ls => match headS l with
      | none => .err 1 6
      | some p => linesS p 1 (l2 :: ls)
  | i + 1, ls => linesS q (i + 1) ls
theorem readS_res (s : List UInt8) (q : Prg) : readS s = resL q 0 (cutL 10 s) := rfl
theorem res_one {q : Prg} {i : Nat} {l : List UInt8} (h : l ≠ [] ∨ i = 0) : resL q i [l] = .err (i + 1) 6 := by
  cases i with
  | zero => rfl
  | succ i =>
    show linesS q (i + 1) [l] = _
    rw [linesS, if_neg (h.resolve_right (by omega))]
theorem res_ok {q : Prg} {i : Nat} (h : i ≠ 0) : resL q i [[]] = .ok q := by
  cases i with
  | zero => exact absurd rfl h
  | succ i =>
    show linesS q (i + 1) [[]] = _
    rw [linesS, if_pos rfl]
theorem res_head_no {q : Prg} {l : List UInt8} {ls : List (List UInt8)} (h : headS l = none) : resL q 0 (l :: ls) = .err 1 6 := by
  cases ls with
  | nil => rfl
  | cons l2 ls => simp only [resL, h]
theorem res_head {q p : Prg} {l : List UInt8} {ls : List (List UInt8)} (h : headS l = some p) (hl : ls ≠ []) : resL q 0 (l :: ls) = resL p 1 ls := by
  cases ls with
  | nil => exact absurd rfl hl
  | cons l2 ls => simp only [resL, h]
theorem res_step_no {q : Prg} {i : Nat} {l : List UInt8} {ls : List (List UInt8)} (hi : i ≠ 0) (h : stepS l = none) (hl : ls ≠ []) : resL q i (l :: ls) = .err (i + 1) 6 := by
  cases i with
  | zero => exact absurd rfl hi
  | succ i =>
    cases ls with
    | nil => exact absurd rfl hl
    | cons l2 ls =>
      show linesS q (i + 1) (l :: l2 :: ls) = _
      rw [linesS, h]
theorem res_form_no {q : Prg} {i : Nat} {l : List UInt8} {ls : List (List UInt8)} {x : Stp} (hi : i ≠ 0) (h : stepS l = some x) (hf : formB x = false) (hl : ls ≠ []) : resL q i (l :: ls) = .err (i + 1) 9 := by
  cases i with
  | zero => exact absurd rfl hi
  | succ i =>
    cases ls with
    | nil => exact absurd rfl hl
    | cons l2 ls =>
      show linesS q (i + 1) (l :: l2 :: ls) = _
      rw [linesS, h]
      simp only
      rw [hf]; rfl
theorem res_step {q : Prg} {i : Nat} {l : List UInt8} {ls : List (List UInt8)} {x : Stp} (hi : i ≠ 0) (h : stepS l = some x) (hf : formB x = true) (hl : ls ≠ []) : resL q i (l :: ls) = resL { q with steps := q.steps ++ [x] } (i + 1) ls := by
  cases i with
  | zero => exact absurd rfl hi
  | succ i =>
    cases ls with
    | nil => exact absurd rfl hl
    | cons l2 ls =>
      show linesS q (i + 1) (l :: l2 :: ls) = linesS _ (i + 1 + 1) (l2 :: ls)
      rw [linesS, h]
      simp only
      rw [if_pos hf]
theorem cutL_ne (b : UInt8) (s : List UInt8) : cutL b s ≠ [] := cutA_ne b s []
theorem step_no {s : List UInt8} (hno : (!(stepS s).isSome) = true) : stepS s = none := by
  cases h : stepS s with
  | none => rfl
  | some n => rw [h] at hno; cases hno
theorem step_yes {s : List UInt8} (hno : (!(stepS s).isSome) = false) : ∃ n, stepS s = some n := by
  cases h : stepS s with
  | none => rw [h] at hno; exact absurd hno (by decide)
  | some n => exact ⟨n, rfl⟩
theorem head_no {s : List UInt8} (hno : (!(headS s).isSome) = true) : headS s = none := by
  cases h : headS s with
  | none => rfl
  | some n => rw [h] at hno; cases hno
theorem head_yes {s : List UInt8} (hno : (!(headS s).isSome) = false) : ∃ n, headS s = some n := by
  cases h : headS s with
  | none => rw [h] at hno; exact absurd hno (by decide)
  | some n => exact ⟨n, rfl⟩
theorem head_steps {l : List UInt8} {p : Prg} (h : headS l = some p) : p.steps = [] := by
  unfold headS at h
  split at h
  · cases h
  · split at h
    · obtain ⟨x, _, rfl⟩ := Option.map_eq_some_iff.1 h
      rfl
    · cases h
/-- What Read answers: the program, the line, the error's value. -/
def ReadR (e : Nat → Value) (r : RR) (v : Value) (ps : Seg) : Prop := ∃ pp pc, v = .tuple #[.agg (prgV r.prg pp r.prg.steps.length pc).toArray, .int .i64 (r.line : Nat), e r.code] ∧ OwnSl 26 7 pp r.prg.steps.length pc (stepsV r.prg.steps) ps
theorem ReadR.err {e : Nat → Value} {r : RR} {l c : Nat} (h : r = .err l c) : ReadR e r (.tuple #[.agg (prgV prg0 none 0 0).toArray, .int .i64 (l : Nat), e c]) [] := by
  subst h
  exact ⟨none, 0, rfl, OwnSl.nil⟩
theorem ReadR.ok {e : Nat → Value} {r : RR} {q : Prg} {pp : Option Addr} {pc : Nat} {ps : Seg} (h : r = .ok q) (ho : OwnSl 26 7 pp q.steps.length pc (stepsV q.steps) ps) : ReadR e r (.tuple #[.agg (prgV q pp q.steps.length pc).toArray, .int .i64 0, e 0]) ps := by
  subst h
  exact ⟨pp, pc, rfl, ho⟩
theorem codeV_ie {F : List Seg} {E : Nat → Value} (h6 : GErr F 1 (E 6)) (h9 : GErr F 0 (E 9)) : errV E 6 = E 6 ∧ errV E 9 = E 9 := ⟨rfl, rfl⟩

theorem Read_b {w0 w : World} {F : List Seg} {E : Nat → Value} (H : Hp w0 w F) (g6 : GErr F 1 (E 6)) (g9 : GErr F 0 (E 9)) (hT : SlAt F (some ⟨19, 0, none⟩) tableC) (ht : GTab F) (hg : RdG F) {s : List UInt8} (hs : s.length < 4294967281) : Ret Tryd.prog 14 [.string ⟨s.toArray⟩] w fun v w' => ∃ ps, ReadR (errV E) (readS s) v ps ∧ Hp w0 w' (ps :: F) := by
  refine Calls.of_J (n := 70) Tryd.func14 rfl rfl rfl ?_
  refine J.seq ?_
  refine J.region ?_
  refine JL.does trivial (EX.alloc H zr24 rfl) ?_
  rintro _ w ⟨b1, rfl, H⟩
  refine JL.go trivial (RX.assign) ?_
  refine JL.go trivial (RX.assign) ?_
  refine JL.nil ?_
  refine J.seq ?_
  refine J.region ?_
  refine JL.does trivial (EX.alloc H zr24 rfl) ?_
  rintro _ w ⟨b2, rfl, H⟩
  refine JL.nil ?_
  refine J.seq ?_
  refine J.seq ?_
  refine J.region ?_
  refine JL.go trivial (RX.assign) ?_
  refine JL.nil ?_
  refine J.block ?_
  refine J.loop (ι := Nat × List UInt8 × Prg × Option Addr × Nat × Seg) (S := fun q => [(0, .string ⟨q.2.1.toArray⟩), (6, .int .i64 (q.1 + 1 : Nat))]) (Φ := fun q w => q.1 + q.2.1.length ≤ s.length ∧ q.2.2.1.steps.length ≤ q.1 ∧ readS s = resL q.2.2.1 q.1 (cutL 10 q.2.1) ∧ OwnSl 26 7 q.2.2.2.1 q.2.2.1.steps.length q.2.2.2.2.1 (stepsV q.2.2.1.steps) q.2.2.2.2.2 ∧ Hp w0 w ([(b2, cel (prgV q.2.2.1 q.2.2.2.1 q.2.2.1.steps.length q.2.2.2.2.1) 24)] :: q.2.2.2.2.2 :: [(b1, cel (prgV prg0 none 0 0) 24)] :: F)) (μ := fun q => q.2.1.length) (C := [(2, _), (5, _)]) (0, s, prg0, none, 0, []) ⟨rfl, rfl, trivial⟩ ⟨rfl, rfl, trivial⟩ ?_ ?_
  · exact ⟨by simp, by simp [prg0], readS_res _ _, OwnSl.nil, H.nil.pull 1 rfl⟩
  clear H
  rintro ⟨i, r, q, pp, pc, ps⟩ ρ w ⟨hir, hqi, hres, ho, H⟩ IH
  simp only at hir hqi hres ho H
  dsimp only
  refine J.seq ?_
  refine J.seq ?_
  refine J.join (ι := Bool) (fun c => [(19, .bool c)]) (fun c w => c = decide (r ≠ [] ∨ i = 0) ∧ Hp w0 w ([(b2, cel (prgV q pp q.steps.length pc) 24)] :: ps :: [(b1, cel (prgV prg0 none 0 0) 24)] :: F)) [(0, _), (2, _), (5, _), (6, _)] ⟨rfl, rfl, rfl, rfl, trivial⟩ ?_ ?_
  rotate_left
  · skip
    intro k2 hk2
    refine J.region ?_
    refine JL.go trivial (RX.movev (v := Value.string _) rfl) ?_
    refine JL.go trivial (RX.str_neq rfl rfl) ?_
    refine JL.go trivial (RX.movev (v := Value.bool _) rfl) ?_
    refine JL.splitS 16 rfl (fun hr => ?_) (fun hr => ?_)
    · skip
      first | have hrp := of_decide_eq_true hr | skip
      refine JL.no ⟨_, rfl, gno hr⟩ ?_
      refine JL.no ⟨_, rfl, gno hr⟩ ?_
      refine JL.go trivial (RX.pick_t rfl hr) ?_
      refine JL.nil ?_
      first | exact hk2 true _ _ ⟨rfl, rfl, rfl, rfl, trivial⟩ ⟨rfl, trivial⟩ ⟨(decide_eq_true (.inl (fun e => hrp (by rw [e])))).symm, H⟩ | exact hk2 (decide (((i + 1 : Nat) : Int) = 1)) _ _ ⟨rfl, rfl, rfl, rfl, trivial⟩ ⟨rfl, trivial⟩ ⟨by congr 1; rw [eq_iff_iff]; constructor; (intro h; right; omega); (rintro (h | h); (exact absurd (ba_inj (Decidable.not_not.1 hrp)) h); omega), H⟩
    · skip
      first | have hrp := of_decide_eq_false hr | skip
      refine JL.go ⟨_, rfl, hr⟩ (RX.movev (v := Value.int _ _) rfl) ?_
      refine JL.go ⟨_, rfl, hr⟩ (RX.eq rfl rfl) ?_
      refine JL.go trivial (RX.pick_f rfl hr) ?_
      refine JL.nil ?_
      first | exact hk2 true _ _ ⟨rfl, rfl, rfl, rfl, trivial⟩ ⟨rfl, trivial⟩ ⟨(decide_eq_true (.inl (fun e => hrp (by rw [e])))).symm, H⟩ | exact hk2 (decide (((i + 1 : Nat) : Int) = 1)) _ _ ⟨rfl, rfl, rfl, rfl, trivial⟩ ⟨rfl, trivial⟩ ⟨by congr 1; rw [eq_iff_iff]; constructor; (intro h; right; omega); (rintro (h | h); (exact absurd (ba_inj (Decidable.not_not.1 hrp)) h); omega), H⟩
  · skip
    clear H
    rintro c ρ w ⟨hc, H⟩
    refine J.cond rfl (fun hgo => ?_) (fun hgo => ?_)
    · skip
      rw [hgo] at hc
      have hri := of_decide_eq_true hc.symm
      refine J.skip ?_
      refine J.seq ?_
      refine J.block ?_
      refine J.seq ?_
      refine J.region ?_
      refine JL.go trivial (RX.movev (v := Value.string _) rfl) ?_
      refine JL.does trivial (EX.call rfl cl27 rfl ((Cut_b H hg.cons.cons.cons (s := r) (by omega)))) ?_
      rintro _ w ⟨rfl, H⟩
      obtain ⟨a, r2, f, hcut, hct, hcf⟩ := cut_three r
      rw [hcut]
      refine JL.go trivial (RX.movev (v := Value.tuple _) rfl) ?_
      refine JL.go trivial (RX.extract (v := .string ⟨a.toArray⟩) rfl rfl) ?_
      refine JL.go trivial (RX.extract (v := .string ⟨r2.toArray⟩) rfl rfl) ?_
      refine JL.go trivial (RX.extract (v := .bool f) rfl rfl) ?_
      refine JL.go trivial (RX.assignv (v := Value.string _) rfl) ?_
      refine JL.go trivial (RX.assignv (v := Value.string _) rfl) ?_
      refine JL.go trivial (RX.assignv (v := Value.bool _) rfl) ?_
      refine JL.nil ?_
      refine J.seq ?_
      refine J.region ?_
      refine JL.go trivial (RX.movev (v := Value.string _) rfl) ?_
      refine JL.go trivial (RX.assignv (v := Value.string _) rfl) ?_
      refine JL.nil ?_
      refine J.seq ?_
      refine J.seq ?_
      refine J.region ?_
      refine JL.go trivial (RX.movev (v := Value.bool _) rfl) ?_
      refine JL.go trivial (RX.not rfl) ?_
      refine JL.nil ?_
      refine J.cond rfl (fun hend => ?_) (fun hend => ?_)
      · skip
        have hf0 : f = false := by cases f with
          | true => cases hend
          | false => rfl
        have hno : readS s = .err (i + 1) 6 := by rw [hres, cut_off (hcf hf0), res_one hri]
        refine J.seq ?_
        refine J.any hmix fun w hs => ?_
        replace H := H.same hs; clear hs
        refine JA.take 0 (listed' := [true, false, false, false, false, false]) rfl (by kernel_rfl) (by kernel_rfl) (by kernel_rfl) rfl trivial (fun w => RX.build (pv := []) (res := prgV prg0 none 0 0) rfl (by kernel_rfl)) ?_
        refine JA.take 1 (listed' := [true, true, false, false, false, false]) rfl (by kernel_rfl) (by kernel_rfl) (by kernel_rfl) rfl trivial (fun w => RX.movev (v := Value.int _ _) rfl) ?_
        refine JA.all [2, 3] (by kernel_rfl) (by decide) ?_
        refine ⟨?_, ?_⟩
        · skip
          refine JO.go (listed' := [true, true, true, false, false, false]) rfl rfl trivial (RX.loadG H rfl g6.at_.cons.cons.cons one29) ?_
          refine JA.all [3] (by kernel_rfl) (by decide) ?_
          refine JO.does (listed' := [true, true, true, true, false, false]) rfl rfl trivial (EX.storeAgg H rfl rfl (i := 2) (vs := prgV prg0 none 0 0) (l' := prgV prg0 none 0 0) rfl prgV_cell (by simp [prgV]) sz24 rfl rfl) ?_
          rintro _ w H
          refine JA.take 4 (listed' := [true, true, true, true, true, false]) rfl (by kernel_rfl) (by kernel_rfl) (by kernel_rfl) rfl trivial (fun w => RX.assignv (v := Value.int _ _) rfl) ?_
          refine JA.take 5 (listed' := [true, true, true, true, true, true]) rfl (by kernel_rfl) (by kernel_rfl) (by kernel_rfl) rfl trivial (fun w => RX.assignv (v := E 6) rfl) ?_
          refine JA.done (by kernel_rfl) ?_
          first
          | refine J.retctt (x := Value.int _ _) Tryd.func14 rfl H rfl (i := 2) (vs := prgV prg0 none 0 0) rfl rfl ag24 rfl rfl ?_
          | refine J.retctt (x := Value.int _ _) Tryd.func14 rfl H rfl (i := 3) (vs := prgV prg0 none 0 0) rfl rfl ag24 rfl rfl ?_
          | refine J.retctt (x := Value.int _ _) Tryd.func14 rfl H rfl (i := 2) (vs := prgV q pp q.steps.length pc) rfl rfl ag24 rfl rfl ?_
          first
          | exact ⟨_, rfl, [], ReadR.err (e := errV E) hno, (H.drop.drop.drop).nil⟩
          | exact ⟨_, rfl, [], ReadR.err (e := errV E) hno, (H.drop.drop.drop.drop).nil⟩
          | (rw [hff]; exact ⟨_, rfl, [], ReadR.err (e := errV E) hno, (H.drop.drop.drop.drop).nil⟩)
          | (rw [hr0, cut_off (by simp), res_ok hi0] at hres
             exact ⟨_, rfl, ps, ReadR.ok (e := errV E) hres ho, (H.drop.pull 1 rfl).drop⟩)
        · skip
          refine JO.does (listed' := [true, true, false, true, false, false]) rfl rfl trivial (EX.storeAgg H rfl rfl (i := 2) (vs := prgV prg0 none 0 0) (l' := prgV prg0 none 0 0) rfl prgV_cell (by simp [prgV]) sz24 rfl rfl) ?_
          rintro _ w H
          refine JA.take 4 (listed' := [true, true, false, true, true, false]) rfl (by kernel_rfl) (by kernel_rfl) (by kernel_rfl) rfl trivial (fun w => RX.assignv (v := Value.int _ _) rfl) ?_
          refine JA.all [2] (by kernel_rfl) (by decide) ?_
          refine JO.go (listed' := [true, true, true, true, true, false]) rfl rfl trivial (RX.loadG H rfl g6.at_.cons.cons.cons one29) ?_
          refine JA.take 5 (listed' := [true, true, true, true, true, true]) rfl (by kernel_rfl) (by kernel_rfl) (by kernel_rfl) rfl trivial (fun w => RX.assignv (v := E 6) rfl) ?_
          refine JA.done (by kernel_rfl) ?_
          first
          | refine J.retctt (x := Value.int _ _) Tryd.func14 rfl H rfl (i := 2) (vs := prgV prg0 none 0 0) rfl rfl ag24 rfl rfl ?_
          | refine J.retctt (x := Value.int _ _) Tryd.func14 rfl H rfl (i := 3) (vs := prgV prg0 none 0 0) rfl rfl ag24 rfl rfl ?_
          | refine J.retctt (x := Value.int _ _) Tryd.func14 rfl H rfl (i := 2) (vs := prgV q pp q.steps.length pc) rfl rfl ag24 rfl rfl ?_
          first
          | exact ⟨_, rfl, [], ReadR.err (e := errV E) hno, (H.drop.drop.drop).nil⟩
          | exact ⟨_, rfl, [], ReadR.err (e := errV E) hno, (H.drop.drop.drop.drop).nil⟩
          | (rw [hff]; exact ⟨_, rfl, [], ReadR.err (e := errV E) hno, (H.drop.drop.drop.drop).nil⟩)
          | (rw [hr0, cut_off (by simp), res_ok hi0] at hres
             exact ⟨_, rfl, ps, ReadR.ok (e := errV E) hres ho, (H.drop.pull 1 rfl).drop⟩)
      · skip
        have hf1 : f = true := by cases f with
          | true => rfl
          | false => exact absurd hend (by decide)
        obtain ⟨hr2, ha⟩ := hct hf1
        rw [hr2, cut_on ha] at hres
        have hrl : r.length = a.length + 1 + r2.length := by rw [hr2]; simp; omega
        refine J.skip ?_
        refine J.seq ?_
        refine J.seq ?_
        refine J.region ?_
        refine JL.go trivial (RX.movev (v := Value.int _ _) rfl) ?_
        refine JL.go trivial (RX.eq rfl rfl) ?_
        refine JL.nil ?_
        refine J.cond_d rfl (fun hn1 => ?_) (fun hn1 => ?_)
        · skip
          have hi0 : i = 0 := by omega
          subst hi0
          refine J.seq ?_
          refine J.region ?_
          refine JL.go trivial (RX.assign) ?_
          refine JL.nil ?_
          refine J.seq ?_
          refine J.seq ?_
          refine J.region ?_
          refine JL.go trivial (RX.movev (v := Value.string _) rfl) ?_
          refine JL.does trivial (EX.call rfl cl28 rfl ((first_b H ht.cons.cons.cons hg.cons.cons.cons (s := a) (by omega)))) ?_
          rintro _ w ⟨rfl, H⟩
          refine JL.go trivial (RX.movev (v := Value.tuple _) rfl) ?_
          refine JL.go trivial (RX.extract (v := .agg (prgV ((headS a).getD prg0) none 0 0).toArray) rfl rfl) ?_
          refine JL.go trivial (RX.extract (v := .bool (headS a).isSome) rfl rfl) ?_
          refine JL.does trivial (EX.storeAgg H rfl rfl (i := 0) (vs := prgV ((headS a).getD prg0) none 0 0) (l' := prgV ((headS a).getD prg0) none 0 0) rfl prgV_cell (by simp [prgV]) sz24 rfl rfl) ?_
          rintro _ w H
          refine JL.go trivial (RX.assignv (v := Value.bool _) rfl) ?_
          refine JL.nil ?_
          refine J.seq ?_
          refine J.region ?_
          refine JL.go trivial (RX.movev (v := Value.bool _) rfl) ?_
          refine JL.go trivial (RX.not rfl) ?_
          refine JL.nil ?_
          refine J.cond rfl (fun hok => ?_) (fun hok => ?_)
          · skip
            have hno : readS s = .err (0 + 1) 6 := by rw [hres, res_head_no (head_no hok)]
            refine J.seq ?_
            refine J.any hmix fun w hs => ?_
            replace H := H.same hs; clear hs
            refine JA.take 0 (listed' := [true, false, false, false, false, false]) rfl (by kernel_rfl) (by kernel_rfl) (by kernel_rfl) rfl trivial (fun w => RX.build (pv := []) (res := prgV prg0 none 0 0) rfl (by kernel_rfl)) ?_
            refine JA.take 1 (listed' := [true, true, false, false, false, false]) rfl (by kernel_rfl) (by kernel_rfl) (by kernel_rfl) rfl trivial (fun w => RX.movev (v := Value.int _ _) rfl) ?_
            refine JA.all [2, 3] (by kernel_rfl) (by decide) ?_
            refine ⟨?_, ?_⟩
            · skip
              refine JO.go (listed' := [true, true, true, false, false, false]) rfl rfl trivial (RX.loadG H rfl g6.at_.cons.cons.cons one29) ?_
              refine JA.all [3] (by kernel_rfl) (by decide) ?_
              refine JO.does (listed' := [true, true, true, true, false, false]) rfl rfl trivial (EX.storeAgg H rfl rfl (i := 2) (vs := prgV prg0 none 0 0) (l' := prgV prg0 none 0 0) rfl prgV_cell (by simp [prgV]) sz24 rfl rfl) ?_
              rintro _ w H
              refine JA.take 4 (listed' := [true, true, true, true, true, false]) rfl (by kernel_rfl) (by kernel_rfl) (by kernel_rfl) rfl trivial (fun w => RX.assignv (v := Value.int _ _) rfl) ?_
              refine JA.take 5 (listed' := [true, true, true, true, true, true]) rfl (by kernel_rfl) (by kernel_rfl) (by kernel_rfl) rfl trivial (fun w => RX.assignv (v := E 6) rfl) ?_
              refine JA.done (by kernel_rfl) ?_
              first
              | refine J.retctt (x := Value.int _ _) Tryd.func14 rfl H rfl (i := 2) (vs := prgV prg0 none 0 0) rfl rfl ag24 rfl rfl ?_
              | refine J.retctt (x := Value.int _ _) Tryd.func14 rfl H rfl (i := 3) (vs := prgV prg0 none 0 0) rfl rfl ag24 rfl rfl ?_
              | refine J.retctt (x := Value.int _ _) Tryd.func14 rfl H rfl (i := 2) (vs := prgV q pp q.steps.length pc) rfl rfl ag24 rfl rfl ?_
              first
              | exact ⟨_, rfl, [], ReadR.err (e := errV E) hno, (H.drop.drop.drop).nil⟩
              | exact ⟨_, rfl, [], ReadR.err (e := errV E) hno, (H.drop.drop.drop.drop).nil⟩
              | (rw [hff]; exact ⟨_, rfl, [], ReadR.err (e := errV E) hno, (H.drop.drop.drop.drop).nil⟩)
              | (rw [hr0, cut_off (by simp), res_ok hi0] at hres
                 exact ⟨_, rfl, ps, ReadR.ok (e := errV E) hres ho, (H.drop.pull 1 rfl).drop⟩)
            · skip
              refine JO.does (listed' := [true, true, false, true, false, false]) rfl rfl trivial (EX.storeAgg H rfl rfl (i := 2) (vs := prgV prg0 none 0 0) (l' := prgV prg0 none 0 0) rfl prgV_cell (by simp [prgV]) sz24 rfl rfl) ?_
              rintro _ w H
              refine JA.take 4 (listed' := [true, true, false, true, true, false]) rfl (by kernel_rfl) (by kernel_rfl) (by kernel_rfl) rfl trivial (fun w => RX.assignv (v := Value.int _ _) rfl) ?_
              refine JA.all [2] (by kernel_rfl) (by decide) ?_
              refine JO.go (listed' := [true, true, true, true, true, false]) rfl rfl trivial (RX.loadG H rfl g6.at_.cons.cons.cons one29) ?_
              refine JA.take 5 (listed' := [true, true, true, true, true, true]) rfl (by kernel_rfl) (by kernel_rfl) (by kernel_rfl) rfl trivial (fun w => RX.assignv (v := E 6) rfl) ?_
              refine JA.done (by kernel_rfl) ?_
              first
              | refine J.retctt (x := Value.int _ _) Tryd.func14 rfl H rfl (i := 2) (vs := prgV prg0 none 0 0) rfl rfl ag24 rfl rfl ?_
              | refine J.retctt (x := Value.int _ _) Tryd.func14 rfl H rfl (i := 3) (vs := prgV prg0 none 0 0) rfl rfl ag24 rfl rfl ?_
              | refine J.retctt (x := Value.int _ _) Tryd.func14 rfl H rfl (i := 2) (vs := prgV q pp q.steps.length pc) rfl rfl ag24 rfl rfl ?_
              first
              | exact ⟨_, rfl, [], ReadR.err (e := errV E) hno, (H.drop.drop.drop).nil⟩
              | exact ⟨_, rfl, [], ReadR.err (e := errV E) hno, (H.drop.drop.drop.drop).nil⟩
              | (rw [hff]; exact ⟨_, rfl, [], ReadR.err (e := errV E) hno, (H.drop.drop.drop.drop).nil⟩)
              | (rw [hr0, cut_off (by simp), res_ok hi0] at hres
                 exact ⟨_, rfl, ps, ReadR.ok (e := errV E) hres ho, (H.drop.pull 1 rfl).drop⟩)
          · skip
            obtain ⟨p1, hp1⟩ := head_yes hok
            rw [res_head hp1 (cutL_ne _ _)] at hres
            have hps := head_steps hp1
            refine J.skip ?_
            refine J.exit rfl ?_
            refine J.region ?_
            refine JL.go trivial (RX.movev (v := Value.int _ _) rfl) ?_
            refine JL.go trivial (RX.add rfl rfl (w_i64 (r := ((0 + 1 + 1 : Nat) : Int)) (by omega) (by omega) (by omega))) ?_
            refine JL.go trivial (RX.assignv (v := Value.int _ _) rfl) ?_
            refine JL.nil ?_
            rw [hp1] at H
            exact IH (0 + 1, r2, p1, none, 0, []) _ _ (by simp only; omega) ⟨rfl, rfl, trivial⟩ ⟨rfl, rfl, trivial⟩ ⟨by simp only; omega, by simp only [hps]; simp, hres, by simp only [hps]; exact OwnSl.nil, by simp only [hps]; exact (H.pull 1 rfl).drop.nil.pull 1 rfl⟩
        · skip
          have hi0 : i ≠ 0 := by omega
          refine J.skip ?_
          refine J.seq ?_
          refine J.region ?_
          refine JL.go trivial (RX.movev (v := Value.string _) rfl) ?_
          refine JL.does trivial (EX.call rfl cl29 rfl ((step_b H ht.cons.cons.cons hg.cons.cons.cons hT.cons.cons.cons (s := a) (by omega)))) ?_
          rintro _ w ⟨⟨x, rfl, hxok, hxs⟩, H⟩
          refine JL.go trivial (RX.movev (v := Value.tuple _) rfl) ?_
          refine JL.go trivial (RX.extract (v := .agg x.v.toArray) rfl rfl) ?_
          refine JL.go trivial (RX.extract (v := .bool (stepS a).isSome) rfl rfl) ?_
          refine JL.does trivial (EX.alloc H zr26 rfl) ?_
          rintro _ w ⟨b3, rfl, H⟩
          refine JL.does trivial (EX.storeAgg H rfl rfl (i := 0) (vs := x.v) (l' := x.v) rfl (stp_cell _) (by simp [Stp.v]) sz26 rfl rfl) ?_
          rintro _ w H
          refine JL.go trivial (RX.assignv (v := Value.bool _) rfl) ?_
          refine JL.nil ?_
          refine J.seq ?_
          refine J.seq ?_
          refine J.region ?_
          refine JL.go trivial (RX.movev (v := Value.bool _) rfl) ?_
          refine JL.go trivial (RX.not rfl) ?_
          refine JL.nil ?_
          refine J.cond rfl (fun hok => ?_) (fun hok => ?_)
          · skip
            have hno : readS s = .err (i + 1) 6 := by rw [hres, res_step_no hi0 (step_no hok) (cutL_ne _ _)]
            refine J.seq ?_
            refine J.any hmix fun w hs => ?_
            replace H := H.same hs; clear hs
            refine JA.take 0 (listed' := [true, false, false, false, false, false]) rfl (by kernel_rfl) (by kernel_rfl) (by kernel_rfl) rfl trivial (fun w => RX.build (pv := []) (res := prgV prg0 none 0 0) rfl (by kernel_rfl)) ?_
            refine JA.take 1 (listed' := [true, true, false, false, false, false]) rfl (by kernel_rfl) (by kernel_rfl) (by kernel_rfl) rfl trivial (fun w => RX.movev (v := Value.int _ _) rfl) ?_
            refine JA.all [2, 3] (by kernel_rfl) (by decide) ?_
            refine ⟨?_, ?_⟩
            · skip
              refine JO.go (listed' := [true, true, true, false, false, false]) rfl rfl trivial (RX.loadG H rfl g6.at_.cons.cons.cons.cons one29) ?_
              refine JA.all [3] (by kernel_rfl) (by decide) ?_
              refine JO.does (listed' := [true, true, true, true, false, false]) rfl rfl trivial (EX.storeAgg H rfl rfl (i := 3) (vs := prgV prg0 none 0 0) (l' := prgV prg0 none 0 0) rfl prgV_cell (by simp [prgV]) sz24 rfl rfl) ?_
              rintro _ w H
              refine JA.take 4 (listed' := [true, true, true, true, true, false]) rfl (by kernel_rfl) (by kernel_rfl) (by kernel_rfl) rfl trivial (fun w => RX.assignv (v := Value.int _ _) rfl) ?_
              refine JA.take 5 (listed' := [true, true, true, true, true, true]) rfl (by kernel_rfl) (by kernel_rfl) (by kernel_rfl) rfl trivial (fun w => RX.assignv (v := E 6) rfl) ?_
              refine JA.done (by kernel_rfl) ?_
              first
              | refine J.retctt (x := Value.int _ _) Tryd.func14 rfl H rfl (i := 2) (vs := prgV prg0 none 0 0) rfl rfl ag24 rfl rfl ?_
              | refine J.retctt (x := Value.int _ _) Tryd.func14 rfl H rfl (i := 3) (vs := prgV prg0 none 0 0) rfl rfl ag24 rfl rfl ?_
              | refine J.retctt (x := Value.int _ _) Tryd.func14 rfl H rfl (i := 2) (vs := prgV q pp q.steps.length pc) rfl rfl ag24 rfl rfl ?_
              first
              | exact ⟨_, rfl, [], ReadR.err (e := errV E) hno, (H.drop.drop.drop).nil⟩
              | exact ⟨_, rfl, [], ReadR.err (e := errV E) hno, (H.drop.drop.drop.drop).nil⟩
              | (rw [hff]; exact ⟨_, rfl, [], ReadR.err (e := errV E) hno, (H.drop.drop.drop.drop).nil⟩)
              | (rw [hr0, cut_off (by simp), res_ok hi0] at hres
                 exact ⟨_, rfl, ps, ReadR.ok (e := errV E) hres ho, (H.drop.pull 1 rfl).drop⟩)
            · skip
              refine JO.does (listed' := [true, true, false, true, false, false]) rfl rfl trivial (EX.storeAgg H rfl rfl (i := 3) (vs := prgV prg0 none 0 0) (l' := prgV prg0 none 0 0) rfl prgV_cell (by simp [prgV]) sz24 rfl rfl) ?_
              rintro _ w H
              refine JA.take 4 (listed' := [true, true, false, true, true, false]) rfl (by kernel_rfl) (by kernel_rfl) (by kernel_rfl) rfl trivial (fun w => RX.assignv (v := Value.int _ _) rfl) ?_
              refine JA.all [2] (by kernel_rfl) (by decide) ?_
              refine JO.go (listed' := [true, true, true, true, true, false]) rfl rfl trivial (RX.loadG H rfl g6.at_.cons.cons.cons.cons one29) ?_
              refine JA.take 5 (listed' := [true, true, true, true, true, true]) rfl (by kernel_rfl) (by kernel_rfl) (by kernel_rfl) rfl trivial (fun w => RX.assignv (v := E 6) rfl) ?_
              refine JA.done (by kernel_rfl) ?_
              first
              | refine J.retctt (x := Value.int _ _) Tryd.func14 rfl H rfl (i := 2) (vs := prgV prg0 none 0 0) rfl rfl ag24 rfl rfl ?_
              | refine J.retctt (x := Value.int _ _) Tryd.func14 rfl H rfl (i := 3) (vs := prgV prg0 none 0 0) rfl rfl ag24 rfl rfl ?_
              | refine J.retctt (x := Value.int _ _) Tryd.func14 rfl H rfl (i := 2) (vs := prgV q pp q.steps.length pc) rfl rfl ag24 rfl rfl ?_
              first
              | exact ⟨_, rfl, [], ReadR.err (e := errV E) hno, (H.drop.drop.drop).nil⟩
              | exact ⟨_, rfl, [], ReadR.err (e := errV E) hno, (H.drop.drop.drop.drop).nil⟩
              | (rw [hff]; exact ⟨_, rfl, [], ReadR.err (e := errV E) hno, (H.drop.drop.drop.drop).nil⟩)
              | (rw [hr0, cut_off (by simp), res_ok hi0] at hres
                 exact ⟨_, rfl, ps, ReadR.ok (e := errV E) hres ho, (H.drop.pull 1 rfl).drop⟩)
          · skip
            obtain ⟨x2, hx2⟩ := step_yes hok
            obtain rfl := hxs x2 hx2
            refine J.skip ?_
            refine J.seq ?_
            refine J.seq ?_
            refine J.region ?_
            refine JL.go trivial (RX.loadAgg H rfl (i := 0) (vs := x.v) rfl rfl ag26) ?_
            refine JL.does trivial (EX.call rfl cl23 rfl (((Form_b H g9.cons.cons.cons.cons hT.cons.cons.cons.cons hxok).mono fun v w' h => (⟨h.1, h.2⟩ : v = e9 E (formB x) ∧ _)))) ?_
            rintro _ w ⟨rfl, H⟩
            refine JL.go trivial (RX.assignv (v := e9 E (formB x)) rfl) ?_
            refine JL.nil ?_
            refine J.seq ?_
            refine J.region ?_
            refine JL.go trivial (RX.movev (v := e9 E (formB x)) rfl) ?_
            refine JL.go trivial (RX.ifnil_neq (v := e9 E (formB x)) rfl rfl (e9_ie g9 _).1 if29) ?_
            refine JL.nil ?_
            refine J.cond rfl (fun hfm => ?_) (fun hfm => ?_)
            · skip
              have hff : formB x = false := by simpa [(e9_ie g9 (formB x)).2] using hfm
              have hno : readS s = .err (i + 1) 9 := by rw [hres, res_form_no hi0 hx2 hff (cutL_ne _ _)]
              refine J.seq ?_
              refine J.region ?_
              refine JL.go trivial (RX.build (pv := []) (res := prgV prg0 none 0 0) rfl (by kernel_rfl)) ?_
              refine JL.go trivial (RX.movev (v := Value.int _ _) rfl) ?_
              refine JL.go trivial (RX.movev (v := e9 E (formB x)) rfl) ?_
              refine JL.does trivial (EX.storeAgg H rfl rfl (i := 3) (vs := prgV prg0 none 0 0) (l' := prgV prg0 none 0 0) rfl prgV_cell (by simp [prgV]) sz24 rfl rfl) ?_
              rintro _ w H
              refine JL.go trivial (RX.assignv (v := Value.int _ _) rfl) ?_
              refine JL.go trivial (RX.assignv (v := e9 E (formB x)) rfl) ?_
              refine JL.nil ?_
              first
              | refine J.retctt (x := Value.int _ _) Tryd.func14 rfl H rfl (i := 2) (vs := prgV prg0 none 0 0) rfl rfl ag24 rfl rfl ?_
              | refine J.retctt (x := Value.int _ _) Tryd.func14 rfl H rfl (i := 3) (vs := prgV prg0 none 0 0) rfl rfl ag24 rfl rfl ?_
              | refine J.retctt (x := Value.int _ _) Tryd.func14 rfl H rfl (i := 2) (vs := prgV q pp q.steps.length pc) rfl rfl ag24 rfl rfl ?_
              first
              | exact ⟨_, rfl, [], ReadR.err (e := errV E) hno, (H.drop.drop.drop).nil⟩
              | exact ⟨_, rfl, [], ReadR.err (e := errV E) hno, (H.drop.drop.drop.drop).nil⟩
              | (rw [hff]; exact ⟨_, rfl, [], ReadR.err (e := errV E) hno, (H.drop.drop.drop.drop).nil⟩)
              | (rw [hr0, cut_off (by simp), res_ok hi0] at hres
                 exact ⟨_, rfl, ps, ReadR.ok (e := errV E) hres ho, (H.drop.pull 1 rfl).drop⟩)
            · skip
              have hff : formB x = true := by simpa [(e9_ie g9 (formB x)).2] using hfm
              rw [res_step hi0 hx2 hff (cutL_ne _ _)] at hres
              refine J.skip ?_
              refine J.region ?_
              refine JL.go trivial (RX.fieldAddr rfl fo24_4 rfl) ?_
              refine JL.go trivial (RX.load H rfl (i := 1) (v := .slice pp q.steps.length pc) rfl rfl one22) ?_
              refine JL.go trivial (RX.loadAgg H rfl (i := 0) (vs := x.v) rfl rfl ag26) ?_
              refine JL.does trivial (EX.buildSlice (pv := [(0, .agg x.v.toArray)]) (l := x.v) (e := 26) H rfl (by kernel_rfl)) ?_
              rintro _ w ⟨bb, rfl, H⟩
              refine JL.does trivial (EX.append (ys := x.v) (L' := fun s' => [(bb, cel x.v 26)] :: [(b3, cel x.v 26)] :: [(b2, cel (prgV q pp q.steps.length pc) 24)] :: s' :: [(b1, cel (prgV prg0 none 0 0) 24)] :: F) H elS rfl rfl (i := 3) rfl ho (SlAt.here (by simp [Stp.v])) rfl (stp_cell _) (by decide) (by omega) (by omega) (fun _ => rfl)) ?_
              rintro _ w ⟨pp2, pc2, ps2, rfl, ho2, H⟩
              replace H := H.drop.drop
              refine JL.go trivial (RX.fieldAddr rfl fo24_4 rfl) ?_
              refine JL.does trivial (EX.store (v := Value.slice _ _ _) H rfl rfl (i := 0) (l' := prgV { q with steps := q.steps ++ [x] } pp2 (q.steps.length + 1) pc2) rfl rfl (by simp [prgV]) sz22 rfl rfl) ?_
              rintro _ w H
              refine JL.nil ?_
              have hql : q.steps.length + 1 = (q.steps ++ [x]).length := by simp
              rw [hql] at H ho2
              rw [show stepsV q.steps ++ x.v = stepsV (q.steps ++ [x]) by rw [stepsV_app]; simp [stepsV]] at ho2
              refine J.inBlock ?_
              refine J.region ?_
              refine JL.go trivial (RX.movev (v := Value.int _ _) rfl) ?_
              refine JL.go trivial (RX.add rfl rfl (w_i64 (r := ((i + 1 + 1 : Nat) : Int)) (by omega) (by omega) (by omega))) ?_
              refine JL.go trivial (RX.assignv (v := Value.int _ _) rfl) ?_
              refine JL.nil ?_
              exact IH (i + 1, r2, { q with steps := q.steps ++ [x] }, pp2, pc2, ps2) _ _ (by simp only; omega) ⟨rfl, rfl, trivial⟩ ⟨rfl, rfl, trivial⟩ ⟨by simp only; omega, by simp; omega, hres, ho2, H⟩
    · skip
      rw [hgo] at hc
      have hri := of_decide_eq_false hc.symm
      have hr0 : r = [] := Decidable.not_not.1 (fun h => hri (.inl h))
      have hi0 : i ≠ 0 := fun h => hri (.inr h)
      refine J.exit rfl ?_
      refine J.seq ?_
      refine J.region ?_
      refine JL.go trivial (RX.loadAgg H rfl (i := 0) (vs := prgV q pp q.steps.length pc) rfl rfl ag24) ?_
      refine JL.does trivial (EX.storeAgg H rfl rfl (i := 2) (vs := prgV q pp q.steps.length pc) (l' := prgV q pp q.steps.length pc) rfl prgV_cell (by simp [prgV]) sz24 rfl rfl) ?_
      rintro _ w H
      refine JL.go trivial (RX.assign) ?_
      refine JL.go trivial (RX.assign) ?_
      refine JL.nil ?_
      first
      | refine J.retctt (x := Value.int _ _) Tryd.func14 rfl H rfl (i := 2) (vs := prgV prg0 none 0 0) rfl rfl ag24 rfl rfl ?_
      | refine J.retctt (x := Value.int _ _) Tryd.func14 rfl H rfl (i := 3) (vs := prgV prg0 none 0 0) rfl rfl ag24 rfl rfl ?_
      | refine J.retctt (x := Value.int _ _) Tryd.func14 rfl H rfl (i := 2) (vs := prgV q pp q.steps.length pc) rfl rfl ag24 rfl rfl ?_
      first
      | exact ⟨_, rfl, [], ReadR.err (e := errV E) hno, (H.drop.drop.drop).nil⟩
      | exact ⟨_, rfl, [], ReadR.err (e := errV E) hno, (H.drop.drop.drop.drop).nil⟩
      | (rw [hff]; exact ⟨_, rfl, [], ReadR.err (e := errV E) hno, (H.drop.drop.drop.drop).nil⟩)
      | (rw [hr0, cut_off (by simp), res_ok hi0] at hres
         exact ⟨_, rfl, ps, ReadR.ok (e := errV E) hres ho, (H.drop.pull 1 rfl).drop⟩)
end Go.Proofs.YtgkmmbdlclecnaaDoor
