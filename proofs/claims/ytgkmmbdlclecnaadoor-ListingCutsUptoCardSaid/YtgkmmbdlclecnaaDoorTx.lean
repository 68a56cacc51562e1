/- Heads and texts of listings. -/
import Derived.Test.YtgkmmbdlclecnaaDoorBd
namespace Go.Proofs.YtgkmmbdlclecnaaDoor
open Go Go.Eng
set_option maxRecDepth 100000
set_option linter.unusedVariables false
set_option linter.unusedSimpArgs false
theorem ag24 : aggOf Tryd.prog 24 = some 5 := by kernel_rfl
theorem ar80 : arrayOf Tryd.prog 80 = some (4, 3, 1) := by kernel_rfl
theorem cl12 : callable Tryd.prog 12 = true := by kernel_rfl
theorem cl16 : callable Tryd.prog 16 = true := by kernel_rfl
theorem cl17 : callable Tryd.prog 17 = true := by kernel_rfl
theorem cl18 : callable Tryd.prog 18 = true := by kernel_rfl
theorem fo24_0 : fieldOff Tryd.prog 24 0 = some 0 := by kernel_rfl
theorem fo24_1 : fieldOff Tryd.prog 24 1 = some 1 := by kernel_rfl
theorem fo24_2 : fieldOff Tryd.prog 24 2 = some 2 := by kernel_rfl
theorem fo24_3 : fieldOff Tryd.prog 24 3 = some 3 := by kernel_rfl
theorem fo24_4 : fieldOff Tryd.prog 24 4 = some 4 := by kernel_rfl
theorem one22 : oneOf Tryd.prog 22 = true := by kernel_rfl
theorem sl22 : sliceOf Tryd.prog 22 = some (26, 7) := by kernel_rfl
theorem sz26 : szOf Tryd.prog 26 = some 7 := by kernel_rfl
theorem zr26 : (Tryd.prog.info? 26).bind (·.zero) = some (.agg #[.int .i64 0, .int .i64 0, .int .i64 0, .int .i64 0, .int .i64 0, .int .i64 0, .int .i64 0]) := by kernel_rfl
theorem zr50 : (Tryd.prog.info? 50).bind (·.zero) = some (.agg #[.pointer none, .slice none 0 0]) := by kernel_rfl

section
variable {P : Program} {w w0 : World} {L : List Seg} {ρ : Operand → Value} {d : Option Tmp} {x y z : Operand} {ty : TypeId} {pos : String} {af : Array Edge} {g : Option (Nat × Bool)}
/-- Bytes converted to bytes: the row is marked. -/
theorem EX.markB {t e b : Nat} {l : List Value} (H : Hp w0 w ([(b, cel l e)] :: L)) (hx : ρ x = .slice (some ⟨b, 0, none⟩) l.length l.length) (ht : P.underlying t = some (.slice e)) (he : P.underlying e = some (.int .u8)) :
    Does P ρ ⟨d, .convert t t x, ty, pos, af, g⟩ w fun v w' => ∃ s', v = .slice (some ⟨b, 0, none⟩) l.length l.length ∧ OwnZ e (some ⟨b, 0, none⟩) l.length l.length l s' ∧ Hp w0 w' (s' :: L) := by
  have hb := H.get1 (i := 0) rfl
  have hsh : w.shape? b = some (e, l.length) := shape_of H (i := 0) rfl
  refine Does.of_run (v := .slice (some ⟨b, 0, none⟩) l.length l.length) (w' := w.freeze ⟨b, l.length, none⟩ 1) ?_ ⟨[(b, Obj.cells l.toArray e (l.length, l.length + 1))], rfl, ⟨rfl, .inr ⟨b, l, _, rfl, rfl, Nat.le_refl _, rfl, List.take_length, fun k _ h h2 => by simp only at h2; omega⟩⟩, ?_⟩
  · simp [execOp, hx, convert, run_underlying ht, run_underlying he, markStringish, hsh]
  · unfold World.freeze
    rw [if_neg (by decide)]
    refine H.set (i := 0) rfl (o' := .cells l.toArray e (l.length, l.length + 1)) (by simp) ?_ ?_
    · simp [Array.getElem?_modify, hb, cel]
    · intro c hc
      rw [Array.getElem?_modify, if_neg (fun h => hc h.symm)]
end
theorem f_no {b : Bool} (h : (if b = true then (0 : Int) else 9) ≠ 0) : b = false := by cases b <;> first | rfl | exact absurd rfl h
theorem f_yes {b : Bool} (h : ¬ (if b = true then (0 : Int) else 9) ≠ 0) : b = true := by cases b <;> first | rfl | exact absurd (by decide) h
theorem OwnZ.here {e b n : Nat} {l : List Value} (h : l.length = n) : OwnZ e (some ⟨b, 0, none⟩) n n l [(b, cel l e)] :=
  ⟨h, .inr ⟨b, l, (0, 0), rfl, rfl, Nat.le_refl _, h, by rw [← h]; exact List.take_length, fun k _ _ h2 => by simp only at h2; omega⟩⟩
def timbre : List UInt8 := [116, 105, 109, 98, 114, 101]
def headPart (p : Prg) (k : Nat) : List UInt8 := timbre ++ (p.heads.take k).flatMap fun x => 32 :: Lib.itoa x
def headL (p : Prg) : List UInt8 := headPart p 4
theorem head_zero (p : Prg) : headPart p 0 = timbre := by simp [headPart]
theorem head_succ {p : Prg} {k : Nat} (hk : k < 4) : headPart p (k + 1) = headPart p k ++ 32 :: Lib.itoa (p.hd k) := by
  have h : k = 0 ∨ k = 1 ∨ k = 2 ∨ k = 3 := by omega
  unfold headPart
  rcases h with rfl | rfl | rfl | rfl <;> simp [Prg.heads, Prg.hd]
theorem head_len {p : Prg} (h : p.Ok) : ∀ {k : Nat}, k ≤ 4 → (headPart p k).length ≤ 6 + 22 * k
  | 0, _ => by rw [head_zero]; simp [timbre]
  | k + 1, hk => by
    rw [head_succ (by omega)]
    have h1 := head_len h (k := k) (by omega)
    have h2 := itoa_len (h.hd (i := k) (by omega))
    simp
    omega
def stepsL (l : List Stp) : List UInt8 := l.flatMap fun s => lineL s ++ [10]
theorem stepsL_snoc {l : List Stp} {s : Stp} : stepsL (l ++ [s]) = stepsL l ++ (lineL s ++ [10]) := by simp [stepsL]
theorem stepsL_len : ∀ {l : List Stp}, (∀ s ∈ l, s.Ok) → (stepsL l).length ≤ 149 * l.length
  | [], _ => by simp [stepsL]
  | s :: l, h => by
    have h1 := stepsL_len (l := l) (fun x hx => h x (List.mem_cons_of_mem _ hx))
    have h2 := line_len (h s List.mem_cons_self)
    simp only [stepsL, List.flatMap_cons, List.length_append, List.length_cons, List.length_nil] at h1 ⊢
    omega
def textPart (p : Prg) (k : Nat) : List UInt8 := headL p ++ [10] ++ stepsL (p.steps.take k)
def textL (p : Prg) : List UInt8 := textPart p p.steps.length
theorem text_zero (p : Prg) : textPart p 0 = headL p ++ [10] := by simp [textPart, stepsL]
theorem text_succ {p : Prg} {k : Nat} {s : Stp} (h : p.steps[k]? = some s) : textPart p (k + 1) = textPart p k ++ (lineL s ++ [10]) := by
  unfold textPart
  rw [take_succ_get h, stepsL_snoc]
  simp
theorem text_len {p : Prg} (h : p.Ok) (k : Nat) : (textPart p k).length ≤ 95 + 149 * p.steps.length := by
  unfold textPart
  have h1 := head_len h (k := 4) (by omega)
  have h2 := stepsL_len (l := p.steps.take k) (fun s hs => h.steps s (List.mem_of_mem_take hs))
  have h3 : (p.steps.take k).length ≤ p.steps.length := by simp; omega
  unfold headL
  simp only [List.length_append, List.length_cons, List.length_nil]
  omega
theorem text_ne (p : Prg) (k : Nat) : textPart p k ≠ [] := by simp [textPart]
def textOk (p : Prg) : Bool := p.steps.all formB
def textR (E : Nat → Value) (p : Prg) : Value := if textOk p then .tuple #[.string ⟨(textL p).toArray⟩, .nilIface] else .tuple #[.string ⟨#[]⟩, E 9]
def rtextR (p : Prg) : Value := if textOk p then .tuple #[.string ⟨(textL p).toArray⟩, .int .i64 0] else .tuple #[.string ⟨#[]⟩, .int .i64 9]
theorem textOk_no {p : Prg} {k : Nat} {s : Stp} (h : p.steps[k]? = some s) (hf : formB s = false) : textOk p = false := by
  unfold textOk
  rw [List.all_eq_false]
  exact ⟨s, List.mem_of_getElem? h, by simp [hf]⟩
theorem textOk_yes {p : Prg} (h : ∀ j s, j < p.steps.length → p.steps[j]? = some s → formB s = true) : textOk p = true := by
  unfold textOk
  rw [List.all_eq_true]
  intro s hs
  obtain ⟨j, hj, rfl⟩ := List.mem_iff_getElem.1 hs
  exact h j _ hj (List.getElem?_eq_getElem hj)

theorem head_b {w0 w : World} {F : List Seg} {p : Prg} {pp : Option Addr} {pc : Nat} (H : Hp w0 w F) (hp : p.Ok) (ht : GTab F) : Ret Tryd.prog 17 [.agg (prgV p pp p.steps.length pc).toArray] w fun v w' => v = .string ⟨(headL p).toArray⟩ ∧ Hp w0 w' F := by
  refine Calls.of_J (n := 28) Tryd.func17 rfl rfl rfl ?_
  refine J.seq ?_
  refine J.region ?_
  refine JL.does trivial (EX.box (v := Value.agg _) H rfl rfl) ?_
  rintro _ w ⟨b1, rfl, H⟩
  refine JL.go trivial (RX.assign) ?_
  refine JL.nil ?_
  refine J.seq ?_
  refine J.region ?_
  refine JL.does trivial (EX.buildSlice (pv := [(0, .int .u8 116), (1, .int .u8 105), (2, .int .u8 109), (3, .int .u8 98), (4, .int .u8 114), (5, .int .u8 101)]) (l := bL timbre) (e := 5) H rfl (by kernel_rfl)) ?_
  rintro _ w ⟨br, rfl, H⟩
  refine JL.does trivial (EX.markB (l := bL timbre) H rfl ud48 ud5) ?_
  rintro _ w ⟨g0, rfl, ho0, H⟩
  rw [bL_len] at ho0
  refine JL.go trivial (RX.assignv (v := Value.slice _ _ _) rfl) ?_
  refine JL.nil ?_
  refine J.seq ?_
  refine J.seq ?_
  refine J.region ?_
  refine JL.go trivial (RX.fieldAddr rfl fo24_0 rfl) ?_
  refine JL.go trivial (RX.load H rfl (i := 1) (v := .int .i64 p.len) rfl rfl one3) ?_
  refine JL.go trivial (RX.fieldAddr rfl fo24_1 rfl) ?_
  refine JL.go trivial (RX.load H rfl (i := 1) (v := .int .i64 p.cells) rfl rfl one3) ?_
  refine JL.go trivial (RX.fieldAddr rfl fo24_2 rfl) ?_
  refine JL.go trivial (RX.load H rfl (i := 1) (v := .int .i64 p.inn) rfl rfl one3) ?_
  refine JL.go trivial (RX.fieldAddr rfl fo24_3 rfl) ?_
  refine JL.go trivial (RX.load H rfl (i := 1) (v := .int .i64 p.out) rfl rfl one3) ?_
  refine JL.go trivial (RX.build (pv := [(0, .int .i64 p.len), (1, .int .i64 p.cells), (2, .int .i64 p.inn), (3, .int .i64 p.out)]) (res := intsV p.heads) rfl (by kernel_rfl)) ?_
  refine JL.go trivial (RX.move) ?_
  refine JL.nil ?_
  refine J.block ?_
  refine J.loop (ι := Nat × Option Addr × Nat × Seg) (S := fun q => [(17, .int .i64 (q.1 : Nat)), (3, .slice q.2.1 (headPart p q.1).length q.2.2.1)]) (Φ := fun q w => q.1 ≤ 4 ∧ OwnZ 5 q.2.1 (headPart p q.1).length q.2.2.1 (bL (headPart p q.1)) q.2.2.2 ∧ Hp w0 w (q.2.2.2 :: [(b1, cel (prgV p pp p.steps.length pc) 24)] :: F)) (μ := fun q => 4 - q.1) (C := [(16, _)]) (0, some ⟨br, 0, none⟩, (timbre).length, g0) ⟨rfl, trivial⟩ ⟨rfl, rfl, trivial⟩ ?_ ?_
  · exact ⟨by simp, by simp only [head_zero]; exact ho0, H⟩
  clear H
  rintro ⟨k, p1, c, sg⟩ ρ w ⟨hk, ho, H⟩ IH
  simp only at hk ho H
  dsimp only
  refine J.seq ?_
  refine J.region ?_
  refine JL.go trivial (RX.lt rfl rfl) ?_
  refine JL.nil ?_
  refine J.seq ?_
  refine J.cond_d rfl (fun hlt => ?_) (fun hlt => ?_)
  · skip
    have hlt4 : k < 4 := by omega
    have hxo := hp.hd (i := k) hlt4
    have hhl := head_len hp (k := k) (by omega)
    have hhs := head_succ (p := p) hlt4
    have hget : p.heads[k]? = some (p.hd k) := by rw [Prg.hd, List.getElem?_eq_getElem (show k < p.heads.length from hlt4)]; rfl
    generalize p.hd k = x at hxo hhs hget
    refine J.skip ?_
    refine J.seq ?_
    refine J.block ?_
    refine J.seq ?_
    refine J.region ?_
    refine JL.go trivial (RX.index rfl rfl ar80 (v := .int .i64 x) one3 (by omega) (by omega) (intsV_get hget)) ?_
    refine JL.go trivial (RX.assignv (v := Value.int _ _) rfl) ?_
    refine JL.nil ?_
    refine J.region ?_
    refine JL.go trivial (RX.movev (v := Value.slice _ _ _) rfl) ?_
    refine JL.does trivial (EX.buildSlice1 (v := Value.int _ _) H elB rfl rfl) ?_
    rintro _ w ⟨br2, rfl, H⟩
    refine JL.does trivial (EX.appendZ (m := 1) (ys := bL [32]) (L' := fun s' => [(br2, cel [.int .u8 32] 5)] :: s' :: [(b1, cel (prgV p pp p.steps.length pc) 24)] :: F) H elB rfl rfl (src_slice (e' := 5) H ud48 (SlAt.here rfl) rfl (bL_cell _)) (i := 1) rfl ho (by omega) (fun _ => rfl)) ?_
    rintro _ w ⟨p2, c2, s2, rfl, ho1, H⟩
    replace H := H.drop
    refine JL.go trivial (RX.movev (v := Value.int _ _) rfl) ?_
    refine JL.does trivial (EX.call rfl cl26 rfl ((appInt_b H ho1 ht.cons hxo.1 hxo.2 (by omega)))) ?_
    rintro _ w ⟨p3, c3, s3, rfl, ho2, H⟩
    refine JL.go trivial (RX.assignv (v := Value.slice _ _ _) rfl) ?_
    refine JL.nil ?_
    have hpn : (headPart p k).length + 1 + (Lib.itoa x).length = (headPart p (k + 1)).length := by rw [hhs]; simp; omega
    rw [hpn, List.append_assoc, ← bL_app, ← bL_app, show headPart p k ++ ([32] ++ Lib.itoa x) = headPart p (k + 1) by rw [hhs]; rfl] at ho2
    refine J.inBlock ?_
    refine J.region ?_
    refine JL.go trivial (RX.add rfl rfl (w_i64 (r := ((k + 1 : Nat) : Int)) (by omega) (by omega) (by omega))) ?_
    refine JL.go trivial (RX.movev (v := Value.int _ _) rfl) ?_
    refine JL.nil ?_
    rw [hpn]
    exact IH (k + 1, p3, c3, s3) _ _ (by simp only; omega) ⟨rfl, trivial⟩ ⟨rfl, rfl, trivial⟩ ⟨by simp only; omega, ho2, H⟩
  · skip
    refine J.exit rfl ?_
    refine J.seq ?_
    refine J.region ?_
    refine JL.go trivial (RX.movev (v := Value.slice _ _ _) rfl) ?_
    refine JL.go trivial (RX.b2s (l := headPart p k) H rfl ho.slAt sl48 ud5 ud9) ?_
    refine JL.go trivial (RX.assignv (v := Value.string _) rfl) ?_
    refine JL.nil ?_
    refine J.ret1 (v := Value.string _) Tryd.func17 rfl rfl ?_
    have e : k = 4 := by omega
    subst e
    exact ⟨_, rfl, rfl, H.drop.drop⟩
theorem rText_b {w0 w : World} {F : List Seg} {p : Prg} {pp : Option Addr} {pc : Nat} (H : Hp w0 w F) (hp : p.Ok) (hst : SlAt F pp (stepsV p.steps)) (hn : p.steps.length ≤ 1099511627776 / 8) : Ret Tryd.prog 9 [.agg (prgV p pp p.steps.length pc).toArray] w fun v w' => v = rtextR p ∧ Hp w0 w' F := by
  refine Calls.of_J (n := 59) Tryd.func9 rfl rfl rfl ?_
  refine J.seq ?_
  refine J.region ?_
  refine JL.does trivial (EX.box (v := Value.agg _) H rfl rfl) ?_
  rintro _ w ⟨b1, rfl, H⟩
  refine JL.go trivial (RX.assign) ?_
  refine JL.go trivial (RX.assign) ?_
  refine JL.nil ?_
  refine J.seq ?_
  refine J.region ?_
  refine JL.does trivial (EX.buildSlice (pv := [(0, .int .u8 116), (1, .int .u8 105), (2, .int .u8 109), (3, .int .u8 98), (4, .int .u8 114), (5, .int .u8 101)]) (l := bL timbre) (e := 5) H rfl (by kernel_rfl)) ?_
  rintro _ w ⟨br, rfl, H⟩
  refine JL.does trivial (EX.markB (l := bL timbre) H rfl ud48 ud5) ?_
  rintro _ w ⟨g0, rfl, ho0, H⟩
  rw [bL_len] at ho0
  refine JL.go trivial (RX.assignv (v := Value.slice _ _ _) rfl) ?_
  refine JL.nil ?_
  refine J.seq ?_
  refine J.seq ?_
  refine J.region ?_
  refine JL.go trivial (RX.fieldAddr rfl fo24_0 rfl) ?_
  refine JL.go trivial (RX.load H rfl (i := 1) (v := .int .i64 p.len) rfl rfl one3) ?_
  refine JL.go trivial (RX.fieldAddr rfl fo24_1 rfl) ?_
  refine JL.go trivial (RX.load H rfl (i := 1) (v := .int .i64 p.cells) rfl rfl one3) ?_
  refine JL.go trivial (RX.fieldAddr rfl fo24_2 rfl) ?_
  refine JL.go trivial (RX.load H rfl (i := 1) (v := .int .i64 p.inn) rfl rfl one3) ?_
  refine JL.go trivial (RX.fieldAddr rfl fo24_3 rfl) ?_
  refine JL.go trivial (RX.load H rfl (i := 1) (v := .int .i64 p.out) rfl rfl one3) ?_
  refine JL.does trivial (EX.buildSlice (pv := [(0, .int .i64 p.len), (1, .int .i64 p.cells), (2, .int .i64 p.inn), (3, .int .i64 p.out)]) (l := intsV p.heads) (e := 3) H rfl (by kernel_rfl)) ?_
  rintro _ w ⟨vb, rfl, H⟩
  refine JL.go trivial (RX.len_slice rfl (by rw [sl55]; rfl) rfl) ?_
  refine JL.go trivial (RX.move) ?_
  refine JL.nil ?_
  refine J.block ?_
  refine J.loop (ι := Nat × Option Addr × Nat × Seg) (S := fun q => [(22, .int .i64 (q.1 : Nat)), (4, .slice q.2.1 (headPart p q.1).length q.2.2.1)]) (Φ := fun q w => q.1 ≤ 4 ∧ OwnZ 5 q.2.1 (headPart p q.1).length q.2.2.1 (bL (headPart p q.1)) q.2.2.2 ∧ Hp w0 w (q.2.2.2 :: [(vb, cel (intsV p.heads) 3)] :: [(b1, cel (prgV p pp p.steps.length pc) 24)] :: F)) (μ := fun q => 4 - q.1) (C := [(1, _), (20, _), (21, _)]) (0, some ⟨br, 0, none⟩, (timbre).length, g0) ⟨rfl, rfl, rfl, trivial⟩ ⟨rfl, rfl, trivial⟩ ?_ ?_
  · exact ⟨by simp, by simp only [head_zero]; exact ho0, H.pull 1 rfl⟩
  clear H
  rintro ⟨k, p1, c, sg⟩ ρ w ⟨hk, ho, H⟩ IH
  simp only at hk ho H
  dsimp only
  refine J.seq ?_
  refine J.region ?_
  refine JL.go trivial (RX.lt rfl rfl) ?_
  refine JL.nil ?_
  refine J.seq ?_
  refine J.cond_d rfl (fun hlt => ?_) (fun hlt => ?_)
  · skip
    have hlt4 : k < 4 := by omega
    have hxo := hp.hd (i := k) hlt4
    have hhl := head_len hp (k := k) (by omega)
    have hhs := head_succ (p := p) hlt4
    have hget : p.heads[k]? = some (p.hd k) := by rw [Prg.hd, List.getElem?_eq_getElem (show k < p.heads.length from hlt4)]; rfl
    generalize p.hd k = x at hxo hhs hget
    refine J.skip ?_
    refine J.seq ?_
    refine J.block ?_
    refine J.seq ?_
    refine J.region ?_
    refine JL.go trivial (RX.indexAddr rfl rfl sl55 (by omega) (by omega) rfl) ?_
    refine JL.go trivial (RX.loadS H (SlAt.here (xs := intsV p.heads) rfl).cons rfl (j := k) (by omega) (v := .int .i64 x) (intsV_get hget) one3) ?_
    refine JL.go trivial (RX.assignv (v := Value.int _ _) rfl) ?_
    refine JL.nil ?_
    refine J.seq ?_
    refine J.region ?_
    refine JL.go trivial (RX.movev (v := Value.slice _ _ _) rfl) ?_
    refine JL.does trivial (EX.buildSlice1 (v := Value.int _ _) H elB rfl rfl) ?_
    rintro _ w ⟨br2, rfl, H⟩
    refine JL.does trivial (EX.appendZ (m := 1) (ys := bL [32]) (L' := fun s' => [(br2, cel [.int .u8 32] 5)] :: s' :: [(vb, cel (intsV p.heads) 3)] :: [(b1, cel (prgV p pp p.steps.length pc) 24)] :: F) H elB rfl rfl (src_slice (e' := 5) H ud48 (SlAt.here rfl) rfl (bL_cell _)) (i := 1) rfl ho (by omega) (fun _ => rfl)) ?_
    rintro _ w ⟨p2, c2, s2, rfl, ho1, H⟩
    replace H := H.drop
    refine JL.go trivial (RX.assignv (v := Value.slice _ _ _) rfl) ?_
    refine JL.nil ?_
    refine J.region ?_
    refine JL.go trivial (RX.movev (v := Value.slice _ _ _) rfl) ?_
    refine JL.go trivial (RX.movev (v := Value.int _ _) rfl) ?_
    refine JL.does trivial (EX.call rfl cl19 rfl ((rnum_b H hxo))) ?_
    rintro _ w ⟨rfl, H⟩
    refine JL.does trivial (EX.appendZ (m := (Lib.itoa x).length) (ys := bL (Lib.itoa x)) (L' := fun s' => s' :: [(vb, cel (intsV p.heads) 3)] :: [(b1, cel (prgV p pp p.steps.length pc) 24)] :: F) H elB rfl rfl (yv := .string ⟨(Lib.itoa x).toArray⟩) (src_str _) (i := 0) rfl ho1 (by have := itoa_len hxo; omega) (fun _ => rfl)) ?_
    rintro _ w ⟨p3, c3, s3, rfl, ho2, H⟩
    refine JL.go trivial (RX.assignv (v := Value.slice _ _ _) rfl) ?_
    refine JL.nil ?_
    have hpn : (headPart p k).length + 1 + (Lib.itoa x).length = (headPart p (k + 1)).length := by rw [hhs]; simp; omega
    rw [hpn, List.append_assoc, ← bL_app, ← bL_app, show headPart p k ++ ([32] ++ Lib.itoa x) = headPart p (k + 1) by rw [hhs]; rfl] at ho2
    refine J.inBlock ?_
    refine J.region ?_
    refine JL.go trivial (RX.add rfl rfl (w_i64 (r := ((k + 1 : Nat) : Int)) (by omega) (by omega) (by omega))) ?_
    refine JL.go trivial (RX.movev (v := Value.int _ _) rfl) ?_
    refine JL.nil ?_
    rw [hpn]
    exact IH (k + 1, p3, c3, s3) _ _ (by simp only; omega) ⟨rfl, rfl, rfl, trivial⟩ ⟨rfl, rfl, trivial⟩ ⟨by simp only; omega, ho2, H⟩
  · skip
    have e : k = 4 := by omega
    subst e
    have hhl := head_len hp (k := 4) (by omega)
    replace H := ((H.pull 1 rfl).drop)
    refine J.exit rfl ?_
    refine J.seq ?_
    refine J.region ?_
    refine JL.go trivial (RX.movev (v := Value.slice _ _ _) rfl) ?_
    refine JL.does trivial (EX.buildSlice1 (v := Value.int _ _) H elB rfl rfl) ?_
    rintro _ w ⟨br3, rfl, H⟩
    refine JL.does trivial (EX.appendZ (m := 1) (ys := bL [10]) (L' := fun s' => [(br3, cel [.int .u8 10] 5)] :: s' :: [(b1, cel (prgV p pp p.steps.length pc) 24)] :: F) H elB rfl rfl (src_slice (e' := 5) H ud48 (SlAt.here rfl) rfl (bL_cell _)) (i := 1) rfl ho (by omega) (fun _ => rfl)) ?_
    rintro _ w ⟨p2, c2, s2, rfl, ho1, H⟩
    replace H := H.drop
    refine JL.go trivial (RX.assignv (v := Value.slice _ _ _) rfl) ?_
    refine JL.nil ?_
    have ht0 : textPart p 0 = headPart p 4 ++ [10] := text_zero p
    have hn0 : (headPart p 4).length + 1 = (textPart p 0).length := by rw [ht0]; simp
    rw [hn0, ← bL_app, ← ht0] at ho1
    clear IH
    refine J.seq ?_
    refine J.seq ?_
    refine J.region ?_
    refine JL.go trivial (RX.fieldAddr rfl fo24_4 rfl) ?_
    refine JL.go trivial (RX.load H rfl (i := 1) (v := .slice pp p.steps.length pc) rfl rfl one22) ?_
    refine JL.go trivial (RX.len_slice rfl (by rw [sl22]; rfl) rfl) ?_
    refine JL.go trivial (RX.move) ?_
    refine JL.nil ?_
    refine J.block ?_
    refine J.loop (ι := Nat × Option Addr × Nat × Seg) (S := fun q => [(40, .int .i64 (q.1 : Nat)), (4, .slice q.2.1 (textPart p q.1).length q.2.2.1)]) (Φ := fun q w => q.1 ≤ p.steps.length ∧ (∀ j s, j < q.1 → p.steps[j]? = some s → formB s = true) ∧ OwnZ 5 q.2.1 (textPart p q.1).length q.2.2.1 (bL (textPart p q.1)) q.2.2.2 ∧ Hp w0 w (q.2.2.2 :: [(b1, cel (prgV p pp p.steps.length pc) 24)] :: F)) (μ := fun q => p.steps.length - q.1) (C := [(38, _), (39, _)]) (0, p2, c2, s2) ⟨rfl, rfl, trivial⟩ ⟨rfl, by rw [hn0]; rfl, trivial⟩ ?_ ?_
    · exact ⟨by simp, fun j s hj => absurd hj (Nat.not_lt_zero _), ho1, H⟩
    clear H
    rintro ⟨k, p1, c, sg⟩ ρ w ⟨hk, hall, ho, H⟩ IH
    simp only at hk hall ho H
    dsimp only
    refine J.seq ?_
    refine J.region ?_
    refine JL.go trivial (RX.lt rfl rfl) ?_
    refine JL.nil ?_
    refine J.seq ?_
    refine J.cond_d rfl (fun hlt => ?_) (fun hlt => ?_)
    · skip
      have hklt : k < p.steps.length := by omega
      obtain ⟨s, hs⟩ : ∃ s, p.steps[k]? = some s := ⟨_, List.getElem?_eq_getElem hklt⟩
      have hsok := hp.steps s (List.mem_of_getElem? hs)
      have htl := text_len hp (k + 1)
      have hts := text_succ hs
      have hll := line_len hsok
      have hpn : (textPart p (k + 1)).length = (textPart p k).length + (lineL s).length + 1 := by rw [hts, List.length_append, List.length_append]; rfl
      obtain ⟨pb, po, rfl⟩ : ∃ pb po, pp = some ⟨pb, po, none⟩ := by
        rcases hst with h | ⟨b', off, C, T, fz, h, _⟩
        · exact absurd (congrArg List.length h) (by rw [stepsV_len]; simp; omega)
        · exact ⟨b', off, h⟩
      refine J.skip ?_
      refine J.seq ?_
      refine J.block ?_
      refine J.seq ?_
      refine J.region ?_
      refine JL.go trivial (RX.indexAddr rfl rfl sl22 (by omega) (by omega) (o' := po + k * 7) (by omega)) ?_
      refine JL.go trivial (RX.loadAggS H hst.cons.cons rfl (j := k * 7) (by omega) (vs := s.v) (stepsV_read _ _ _ hs) ag26) ?_
      refine JL.does trivial (EX.alloc H zr26 rfl) ?_
      rintro _ w ⟨b8, rfl, H⟩
      refine JL.does trivial (EX.storeAgg H rfl rfl (i := 0) (vs := s.v) (l' := s.v) rfl (stp_cell _) (by simp [Stp.v]) sz26 rfl rfl) ?_
      rintro _ w H
      refine JL.nil ?_
      refine J.seq ?_
      refine J.region ?_
      refine JL.go trivial (RX.loadAgg H rfl (i := 0) (vs := s.v) rfl rfl ag26) ?_
      refine JL.does trivial (EX.call rfl cl20 rfl ((rform_b H hsok))) ?_
      rintro _ w ⟨rfl, H⟩
      refine JL.go trivial (RX.assignv (v := Value.int _ _) rfl) ?_
      refine JL.nil ?_
      refine J.seq ?_
      refine J.seq ?_
      refine J.region ?_
      refine JL.go trivial (RX.movev (v := Value.int _ _) rfl) ?_
      refine JL.go trivial (RX.ne rfl rfl) ?_
      refine JL.nil ?_
      refine J.cond_d rfl (fun hf => ?_) (fun hf => ?_)
      · skip
        refine J.seq ?_
        refine J.region ?_
        refine JL.go trivial (RX.movev (v := Value.int _ _) rfl) ?_
        refine JL.go trivial (RX.assign) ?_
        refine JL.go trivial (RX.assignv (v := Value.int _ _) rfl) ?_
        refine JL.nil ?_
        refine J.ret2 (v := Value.string _) (x := Value.int _ _) Tryd.func9 rfl rfl rfl ?_
        have e : formB s = false := f_no hf
        refine ⟨_, rfl, ?_, H.drop.drop.drop⟩
        rw [rtextR, textOk_no hs e, e]; rfl
      · skip
        have hfs : formB s = true := f_yes hf
        refine J.skip ?_
        refine J.seq ?_
        refine J.region ?_
        refine JL.go trivial (RX.movev (v := Value.slice _ _ _) rfl) ?_
        refine JL.go trivial (RX.loadAgg H rfl (i := 0) (vs := s.v) rfl rfl ag26) ?_
        refine JL.does trivial (EX.call rfl cl21 rfl ((rline_b H hsok (op_of_form hfs)))) ?_
        rintro _ w ⟨rfl, H⟩
        refine JL.does trivial (EX.appendZ (m := (lineL s).length) (ys := bL (lineL s)) (L' := fun s' => [(b8, cel s.v 26)] :: s' :: [(b1, cel (prgV p (some ⟨pb, po, none⟩) p.steps.length pc) 24)] :: F) H elB rfl rfl (yv := .string ⟨(lineL s).toArray⟩) (src_str _) (i := 1) rfl ho (by omega) (fun _ => rfl)) ?_
        rintro _ w ⟨p3, c3, s3, rfl, ho2, H⟩
        replace H := H.drop
        refine JL.go trivial (RX.assignv (v := Value.slice _ _ _) rfl) ?_
        refine JL.nil ?_
        refine J.region ?_
        refine JL.go trivial (RX.movev (v := Value.slice _ _ _) rfl) ?_
        refine JL.does trivial (EX.buildSlice1 (v := Value.int _ _) H elB rfl rfl) ?_
        rintro _ w ⟨br4, rfl, H⟩
        refine JL.does trivial (EX.appendZ (m := 1) (ys := bL [10]) (L' := fun s' => [(br4, cel [.int .u8 10] 5)] :: s' :: [(b1, cel (prgV p (some ⟨pb, po, none⟩) p.steps.length pc) 24)] :: F) H elB rfl rfl (src_slice (e' := 5) H ud48 (SlAt.here rfl) rfl (bL_cell _)) (i := 1) rfl ho2 (by omega) (fun _ => rfl)) ?_
        rintro _ w ⟨p4, c4, s4, rfl, ho3, H⟩
        replace H := H.drop
        refine JL.go trivial (RX.assignv (v := Value.slice _ _ _) rfl) ?_
        refine JL.nil ?_
        rw [← hpn, List.append_assoc, ← bL_app, ← bL_app, ← hts] at ho3
        refine J.inBlock ?_
        refine J.region ?_
        refine JL.go trivial (RX.add rfl rfl (w_i64 (r := ((k + 1 : Nat) : Int)) (by omega) (by omega) (by omega))) ?_
        refine JL.go trivial (RX.movev (v := Value.int _ _) rfl) ?_
        refine JL.nil ?_
        rw [← hpn]
        refine IH (k + 1, p4, c4, s4) _ _ (by simp only; omega) ⟨rfl, rfl, trivial⟩ ⟨rfl, rfl, trivial⟩ ⟨by simp only; omega, fun j s1 hj h1 => ?_, ho3, H⟩
        rcases Nat.lt_succ_iff_lt_or_eq.1 hj with h | rfl
        · exact hall j s1 h h1
        · rw [hs] at h1; cases h1; exact hfs
    · skip
      refine J.exit rfl ?_
      refine J.seq ?_
      refine J.region ?_
      refine JL.go trivial (RX.movev (v := Value.slice _ _ _) rfl) ?_
      refine JL.go trivial (RX.b2s (l := textPart p k) H rfl ho.slAt sl48 ud5 ud9) ?_
      refine JL.go trivial (RX.assignv (v := Value.string _) rfl) ?_
      refine JL.go trivial (RX.assign) ?_
      refine JL.nil ?_
      refine J.ret2 (v := Value.string _) (x := Value.int _ _) Tryd.func9 rfl rfl rfl ?_
      have e : k = p.steps.length := by omega
      subst e
      refine ⟨_, rfl, ?_, H.drop.drop⟩
      rw [rtextR, textOk_yes hall]; rfl
def lineO (s : Stp) : List UInt8 := if formB s then lineL s else []
theorem lineR_eq (E : Nat → Value) (s : Stp) : lineR E s = .tuple [.string ⟨(lineO s).toArray⟩, e9 E (formB s)].toArray := by
  unfold lineR lineO
  cases formB s <;> rfl
theorem text_b {w0 w : World} {F : List Seg} {E : Nat → Value} {p : Prg} {pp : Option Addr} {pc : Nat} (H : Hp w0 w F) (g9 : GErr F 0 (E 9)) (hT : SlAt F (some ⟨19, 0, none⟩) tableC) (ht : GTab F) (hp : p.Ok) (hst : SlAt F pp (stepsV p.steps)) (hn : p.steps.length ≤ 1099511627776 / 8) : Ret Tryd.prog 8 [.agg (prgV p pp p.steps.length pc).toArray] w fun v w' => v = textR E p ∧ Hp w0 w' F := by
  refine Calls.of_J (n := 33) Tryd.func8 rfl rfl rfl ?_
  refine J.seq ?_
  refine J.region ?_
  refine JL.does trivial (EX.box (v := Value.agg _) H rfl rfl) ?_
  rintro _ w ⟨b1, rfl, H⟩
  refine JL.go trivial (RX.assign) ?_
  refine JL.go trivial (RX.assign) ?_
  refine JL.nil ?_
  refine J.seq ?_
  refine J.region ?_
  refine JL.does trivial (EX.alloc H zr50 rfl) ?_
  rintro _ w ⟨b4, rfl, H⟩
  refine JL.nil ?_
  refine J.seq ?_
  refine J.region ?_
  refine JL.go trivial (RX.loadAgg H rfl (i := 1) (vs := prgV p pp p.steps.length pc) rfl rfl ag24) ?_
  refine JL.does trivial (EX.call rfl cl17 rfl ((head_b H hp ht.cons.cons))) ?_
  rintro _ w ⟨rfl, H⟩
  refine JL.go trivial (RX.strL (a := headL p) (b := [10]) (r := textPart p 0) rfl rfl (text_zero p).symm (by have := text_len hp 0; omega)) ?_
  have htl0 := text_len hp 0
  replace H := (H.nil).pull 1 rfl
  refine JL.does trivial (EX.call rfl cl16 rfl ((WriteString_b (l := textPart p 0) H (.inl rfl) OwnZ.nil (by omega)))) ?_
  rintro _ w ⟨rfl, p2, c2, s2, ho1, H⟩
  rw [Nat.zero_add, List.nil_append] at ho1
  rw [Nat.zero_add] at H
  refine JL.nil ?_
  refine J.seq ?_
  refine J.seq ?_
  refine J.region ?_
  refine JL.go trivial (RX.fieldAddr rfl fo24_4 rfl) ?_
  refine JL.go trivial (RX.load H rfl (i := 2) (v := .slice pp p.steps.length pc) rfl rfl one22) ?_
  refine JL.go trivial (RX.len_slice rfl (by rw [sl22]; rfl) rfl) ?_
  refine JL.go trivial (RX.move) ?_
  refine JL.nil ?_
  refine J.block ?_
  refine J.loop (ι := Nat × Option Addr × Nat × Seg) (S := fun q => [(16, .int .i64 (q.1 : Nat))]) (Φ := fun q w => q.1 ≤ p.steps.length ∧ (∀ j s, j < q.1 → p.steps[j]? = some s → formB s = true) ∧ OwnZ 5 q.2.1 (textPart p q.1).length q.2.2.1 (bL (textPart p q.1)) q.2.2.2 ∧ Hp w0 w ([(b4, cel [.pointer (some ⟨b4, 0, none⟩), .slice q.2.1 (textPart p q.1).length q.2.2.1] 50)] :: q.2.2.2 :: [(b1, cel (prgV p pp p.steps.length pc) 24)] :: F)) (μ := fun q => p.steps.length - q.1) (C := [(4, _), (14, _), (15, _)]) (0, p2, c2, s2) ⟨rfl, rfl, rfl, trivial⟩ ⟨rfl, trivial⟩ ?_ ?_
  · exact ⟨by simp, fun j s hj => absurd hj (Nat.not_lt_zero _), ho1, H⟩
  clear H
  rintro ⟨k, p1, c, sg⟩ ρ w ⟨hk, hall, ho, H⟩ IH
  simp only at hk hall ho H
  dsimp only
  refine J.seq ?_
  refine J.region ?_
  refine JL.go trivial (RX.lt rfl rfl) ?_
  refine JL.nil ?_
  refine J.seq ?_
  refine J.cond_d rfl (fun hlt => ?_) (fun hlt => ?_)
  · skip
    have hklt : k < p.steps.length := by omega
    obtain ⟨s, hs⟩ : ∃ s, p.steps[k]? = some s := ⟨_, List.getElem?_eq_getElem hklt⟩
    have hsok := hp.steps s (List.mem_of_getElem? hs)
    have htl := text_len hp (k + 1)
    have hts := text_succ hs
    have hll := line_len hsok
    have hpn : (textPart p (k + 1)).length = (textPart p k).length + (lineL s).length + 1 := by rw [hts, List.length_append, List.length_append]; rfl
    obtain ⟨pb, po, rfl⟩ : ∃ pb po, pp = some ⟨pb, po, none⟩ := by
      rcases hst with h | ⟨b', off, C, T, fz, h, _⟩
      · exact absurd (congrArg List.length h) (by rw [stepsV_len]; simp; omega)
      · exact ⟨b', off, h⟩
    refine J.skip ?_
    refine J.seq ?_
    refine J.block ?_
    refine J.seq ?_
    refine J.region ?_
    refine JL.go trivial (RX.indexAddr rfl rfl sl22 (by omega) (by omega) (o' := po + k * 7) (by omega)) ?_
    refine JL.go trivial (RX.loadAggS H hst.cons.cons.cons rfl (j := k * 7) (by omega) (vs := s.v) (stepsV_read _ _ _ hs) ag26) ?_
    refine JL.does trivial (EX.alloc H zr26 rfl) ?_
    rintro _ w ⟨b6, rfl, H⟩
    refine JL.does trivial (EX.storeAgg H rfl rfl (i := 0) (vs := s.v) (l' := s.v) rfl (stp_cell _) (by simp [Stp.v]) sz26 rfl rfl) ?_
    rintro _ w H
    refine JL.nil ?_
    refine J.seq ?_
    refine J.region ?_
    refine JL.go trivial (RX.loadAgg H rfl (i := 0) (vs := s.v) rfl rfl ag26) ?_
    refine JL.does trivial (EX.call rfl cl12 rfl ((line_b H g9.cons.cons.cons.cons hT.cons.cons.cons.cons ht.cons.cons.cons.cons hsok))) ?_
    rintro _ w ⟨rfl, H⟩
    rw [lineR_eq]
    refine JL.go trivial (RX.movev (v := Value.tuple _) rfl) ?_
    refine JL.go trivial (RX.extract (v := .string ⟨(lineO s).toArray⟩) rfl rfl) ?_
    refine JL.go trivial (RX.extract (v := e9 E (formB s)) rfl rfl) ?_
    refine JL.go trivial (RX.assignv (v := Value.string _) rfl) ?_
    refine JL.go trivial (RX.assignv (v := e9 E (formB s)) rfl) ?_
    refine JL.nil ?_
    refine J.seq ?_
    refine J.seq ?_
    refine J.region ?_
    refine JL.go trivial (RX.movev (v := e9 E (formB s)) rfl) ?_
    refine JL.go trivial (RX.ifnil_neq (v := e9 E (formB s)) rfl rfl (e9_ie g9 _).1 if29) ?_
    refine JL.nil ?_
    refine J.cond rfl (fun hf => ?_) (fun hf => ?_)
    · skip
      have e : formB s = false := by simpa [(e9_ie g9 (formB s)).2] using hf
      refine J.seq ?_
      refine J.region ?_
      refine JL.go trivial (RX.movev (v := e9 E (formB s)) rfl) ?_
      refine JL.go trivial (RX.assign) ?_
      refine JL.go trivial (RX.assignv (v := e9 E (formB s)) rfl) ?_
      refine JL.nil ?_
      refine J.ret2 (v := Value.string _) Tryd.func8 rfl rfl rfl ?_
      refine ⟨_, rfl, ?_, H.drop.drop.drop.drop⟩
      rw [textR, textOk_no hs e, e]; rfl
    · skip
      have hfs : formB s = true := by simpa [(e9_ie g9 (formB s)).2] using hf
      refine J.skip ?_
      refine J.region ?_
      refine JL.go trivial (RX.movev (v := Value.string _) rfl) ?_
      have hlo : lineO s = lineL s := by rw [lineO, hfs]; rfl
      refine JL.go trivial (RX.strL (a := lineO s) (b := [10]) (r := lineL s ++ [10]) rfl rfl (by rw [hlo]) (by simp; omega)) ?_
      refine JL.does trivial (EX.call rfl cl16 rfl ((WriteString_b (l := lineL s ++ [10]) H.drop (.inr rfl) ho (by rw [List.length_append]; simp only [List.length_cons, List.length_nil]; omega)))) ?_
      rintro _ w ⟨rfl, p3, c3, s3, ho2, H⟩
      refine JL.nil ?_
      have hll1 : (textPart p k).length + (lineL s ++ [10]).length = (textPart p (k + 1)).length := by rw [hts]; simp
      rw [hll1, ← bL_app, ← hts] at ho2
      rw [hll1] at H
      refine J.inBlock ?_
      refine J.region ?_
      refine JL.go trivial (RX.add rfl rfl (w_i64 (r := ((k + 1 : Nat) : Int)) (by omega) (by omega) (by omega))) ?_
      refine JL.go trivial (RX.movev (v := Value.int _ _) rfl) ?_
      refine JL.nil ?_
      refine IH (k + 1, p3, c3, s3) _ _ (by simp only; omega) ⟨rfl, rfl, rfl, trivial⟩ ⟨rfl, trivial⟩ ⟨by simp only; omega, fun j s1 hj h1 => ?_, ho2, H⟩
      rcases Nat.lt_succ_iff_lt_or_eq.1 hj with h | rfl
      · exact hall j s1 h h1
      · rw [hs] at h1; cases h1; exact hfs
  · skip
    have e : k = p.steps.length := by omega
    subst e
    refine J.exit rfl ?_
    refine J.seq ?_
    refine J.region ?_
    refine JL.does trivial (EX.call rfl cl18 rfl ((String_b (l := textPart p p.steps.length) H ho (text_ne _ _) (by have := text_len hp p.steps.length; omega)))) ?_
    rintro _ w ⟨rfl, H⟩
    refine JL.go trivial (RX.assignv (v := Value.string _) rfl) ?_
    refine JL.go trivial (RX.assign) ?_
    refine JL.nil ?_
    refine J.ret2 (v := Value.string _) Tryd.func8 rfl rfl rfl ?_
    refine ⟨_, rfl, ?_, H.drop⟩
    rw [textR, textOk_yes hall]; rfl
end Go.Proofs.YtgkmmbdlclecnaaDoor
