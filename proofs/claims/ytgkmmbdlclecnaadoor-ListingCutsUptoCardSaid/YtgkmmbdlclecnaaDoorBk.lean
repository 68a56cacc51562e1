/- The laws ListingBack and ListingCuts. -/
import Derived.Test.YtgkmmbdlclecnaaDoorLr
import Derived.Test.YtgkmmbdlclecnaaDoorPc
namespace Go.Proofs.YtgkmmbdlclecnaaDoor
open Go Go.Eng
set_option maxRecDepth 100000
set_option linter.unusedVariables false
set_option linter.unusedSimpArgs false
theorem ki45 : kindOf Tryd.prog 45 = some .u64 := by kernel_rfl
theorem ud4 : Tryd.prog.underlying 4 = some .bool := by kernel_rfl

section
variable {P : Program} {w w0 : World} {L : List Seg} {ρ : Operand → Value} {d : Option Tmp} {x y z : Operand} {ty : TypeId} {pos : String} {af : Array Edge} {g : Option (Nat × Bool)}
theorem RX.err_neq {t t' T : TypeId} {u v : Value} {a b : Addr} (H : Hp w0 w L) (hx : ρ x = u) (hy : ρ y = v) (hu : ErrAt L T u a) (hv : ErrAt L T v b) (ht : isIface P t = true) (hT : ptrTo P T = true) :
    Runs P ρ ⟨d, .binOp .neq t x y t', ty, pos, af, g⟩ w (.bool (!decide (a = b))) := by
  have h := equal_err H ht hT hu hv
  obtain ⟨rfl, _⟩ := hu
  obtain ⟨rfl, _⟩ := hv
  have h1 : (binOp .neq t (.iface T (.pointer (some a))) (.iface T (.pointer (some b)))).run P w = .ok (.bool (!decide (a = b))) w := by
    simp only [binOp]; simp [h]
  unfold Runs
  simp [execOp, hx, hy, eqGuard_at_iface, h1]
theorem RX.slStrH {t : TypeId} {a r : List UInt8} {k : IntKind} {h : Int} (hx : ρ x = .string ⟨a.toArray⟩) (hy : ρ y = .int k h) (ht : P.underlying t = some .string) (h0 : 0 ≤ h) (h1 : h ≤ a.length)
    (hr : a.take h.toNat = r) : Runs P ρ ⟨d, .slice t x none (some y) none, ty, pos, af, g⟩ w (.string ⟨r.toArray⟩) := by
  subst hr
  have h1' : h ≤ (⟨a.toArray⟩ : ByteArray).size := by simpa [ByteArray.size] using h1
  have he : (⟨a.toArray⟩ : ByteArray).extract 0 h.toNat = ⟨(a.take h.toNat).toArray⟩ := by
    rw [ByteArray.extract_mk]
    congr 2
  rw [← he]
  unfold Runs
  simp [execOp, hx, hy, run_sliceAt_string w t _ _ _ _ ht, run_slice_string_h w t _ ht k h h0 h1']
theorem RX.slice_h2 {t e : TypeId} {p : Option Addr} {n cap sz : Nat} {k : IntKind} {h : Int} {r : Nat} (hx : ρ x = .slice p n cap) (hy : ρ y = .int k h) (ht : sliceOf P t = some (e, sz)) (hp : ∀ a, p = some a → a.spot = none ∨ cap = 0)
    (h0 : 0 ≤ h) (h1 : h ≤ cap) (hr : h.toNat = r) : Runs P ρ ⟨d, .slice t x none (some y) none, ty, pos, af, g⟩ w (.slice p r cap) := by
  obtain ⟨hu, he, hs⟩ := slice_elem (w := w) ht
  subst hr
  have hb : behind p cap 0 sz = p := by
    unfold behind
    cases p with
    | none => rfl
    | some a => simp
  unfold Runs
  simp [execOp, hx, hy, run_sliceAt_slice w t _ _ _ _ hu, run_slice_h w t p n cap hu k h h0 h1, he, hs, sliced_plain2 hp, hb]
end
def lnsO (p : Prg) (k : Nat) : List UInt8 := (p.steps.take k).flatMap fun s => lineO s ++ [10]
theorem lns_succ {p : Prg} {k : Nat} {s : Stp} (h : p.steps[k]? = some s) : lnsO p (k + 1) = lnsO p k ++ (lineO s ++ [10]) := by
  unfold lnsO
  rw [take_succ_get h]; simp
theorem all_succ {p : Prg} {k : Nat} {s : Stp} (h : p.steps[k]? = some s) : (p.steps.take (k + 1)).all formB = ((p.steps.take k).all formB && formB s) := by
  rw [take_succ_get h]; simp
theorem lineO_len {s : Stp} (h : s.Ok) : (lineO s).length ≤ 148 := by
  unfold lineO
  split
  · exact line_len h
  · simp
theorem lns_full {p : Prg} (h : textOk p = true) : lnsO p p.steps.length = stepsL p.steps := by
  unfold lnsO stepsL
  rw [List.take_length]
  have : ∀ l : List Stp, (∀ s ∈ l, formB s = true) → (l.flatMap fun s => lineO s ++ [10]) = l.flatMap fun s => lineL s ++ [10] := by
    intro l
    induction l with
    | nil => intro _; rfl
    | cons s l ih =>
      intro hl
      rw [List.flatMap_cons, List.flatMap_cons, ih (fun x hx => hl x (List.mem_cons_of_mem _ hx)), lineO, hl s List.mem_cons_self]
      rfl
  exact this _ (textOk_all h)
theorem textO_ok {p : Prg} (h : textOk p = true) : textO p = textL p := by unfold textO; rw [h]; rfl
theorem textO_no {p : Prg} (h : textOk p = false) : textO p = [] := by unfold textO; rw [h]; rfl
theorem text_split {p : Prg} (h : textOk p = true) : textO p = (headL p ++ [10]) ++ lnsO p p.steps.length := by
  rw [textO_ok h, lns_full h, textL, textPart, List.take_length]
theorem textO_len {p : Prg} (h : p.Ok) : (textO p).length ≤ 95 + 149 * p.steps.length := by
  unfold textO
  split
  · exact text_len h _
  · simp
theorem lines_line : ∀ (ls : List (List UInt8)) (p : Prg) (i l c : Nat), linesS p i ls = .err l c → 1 ≤ l
  | [], p, i, l, c, h => by rw [linesS] at h; cases h; omega
  | [x], p, i, l, c, h => by
    rw [linesS] at h
    split at h
    · cases h
    · cases h; omega
  | x :: y :: ls, p, i, l, c, h => by
    rw [linesS] at h
    split at h
    · cases h; omega
    · split at h
      · exact lines_line (y :: ls) _ _ l c h
      · cases h; omega
theorem read_line {s : List UInt8} {l c : Nat} (h : readS s = .err l c) : 1 ≤ l := by
  unfold readS at h
  split at h
  · cases h; omega
  · cases h; omega
  · split at h
    · cases h; omega
    · exact lines_line _ _ _ _ _ h
theorem lines_pos : ∀ (ls : List (List UInt8)) (p : Prg) (i l c : Nat), linesS p i ls = .err l c → c ≠ 0
  | [], p, i, l, c, h => by rw [linesS] at h; cases h; omega
  | [x], p, i, l, c, h => by
    rw [linesS] at h
    split at h
    · cases h
    · cases h; omega
  | x :: y :: ls, p, i, l, c, h => by
    rw [linesS] at h
    split at h
    · cases h; omega
    · split at h
      · exact lines_pos (y :: ls) _ _ l c h
      · cases h; omega
theorem read_pos {s : List UInt8} {l c : Nat} (h : readS s = .err l c) : c ≠ 0 := by
  unfold readS at h
  split at h
  · cases h; omega
  · cases h; omega
  · split at h
    · cases h; omega
    · exact lines_pos _ _ _ _ _ h
theorem read_none {s : List UInt8} (h : (readS s).code ≠ 0) : (readS s).prg = prg0 ∧ 1 ≤ (readS s).line ∧ ((readS s).code = 6 ∨ (readS s).code = 9) := by
  have hc := readS_code s
  cases hr : readS s with
  | ok q => rw [hr] at h; exact absurd rfl h
  | err l c =>
    rw [hr] at h hc
    exact ⟨rfl, read_line hr, hc.resolve_left h⟩
theorem read_some {s : List UInt8} (h : (readS s).code = 0) : (readS s).line = 0 ∧ textL (readS s).prg = s ∧ textOk (readS s).prg = true ∧ ((readS s).prg.steps.length ≤ 2199023255552 → (readS s).prg.Ok) := by
  cases hr : readS s with
  | ok q => exact ⟨rfl, read_back hr⟩
  | err l c =>
    rw [hr] at h
    exact absurd h (read_pos hr)
def cntT (t : List UInt8) (i : Nat) : Nat := (t.take i).count 10
theorem cnt_succ {t : List UInt8} {i : Nat} {c : UInt8} (h : t[i]? = some c) : cntT t (i + 1) = cntT t i + if (c.toNat : Int) = 10 then 1 else 0 := by
  unfold cntT
  rw [take_succ_get h, List.count_append, List.count_singleton]
  have e : (c == 10) = decide ((c.toNat : Int) = 10) := by
    rw [Bool.eq_iff_iff, beq_iff_eq, decide_eq_true_eq]
    constructor
    · intro e; subst e; decide
    · intro e
      have e2 : c.toNat = 10 := by omega
      exact UInt8.toNat_inj.1 (by rw [e2]; rfl)
  rw [e]
  by_cases hc : (c.toNat : Int) = 10 <;> simp [hc]
theorem cnt_le (t : List UInt8) (i : Nat) : cntT t i ≤ t.length := by
  unfold cntT
  refine Nat.le_trans List.count_le_length ?_
  rw [List.length_take]; omega
theorem last_take {t : List UInt8} {k : Nat} (h : k ≤ t.length) : (t.take k).getLast? = some 10 ↔ 0 < k ∧ t[k - 1]? = some 10 := by
  rcases Nat.eq_zero_or_pos k with e | e
  · subst e; simp
  · obtain ⟨i, rfl⟩ : ∃ i, k = i + 1 := ⟨k - 1, by omega⟩
    rw [take_succ_get (List.getElem?_eq_getElem (show i < t.length by omega)), List.getLast?_append]
    simp only [List.getLast?_singleton, Option.some_or, Nat.add_sub_cancel]
    rw [List.getElem?_eq_getElem (show i < t.length by omega)]
    constructor
    · exact fun h => ⟨e, h⟩
    · exact fun h => h.2
theorem ten_is {c : UInt8} (h : (c.toNat : Int) = 10) : c = 10 := UInt8.toNat_inj.1 (by rw [show c.toNat = 10 by omega]; rfl)
theorem u64_range (a : Int) : 0 ≤ IntKind.u64.wrap a ∧ IntKind.u64.wrap a ≤ 18446744073709551615 := by
  simp only [IntKind.wrap, IntKind.bits, IntKind.signed]
  simp
  omega
theorem cut_place (a : Int) (n : Nat) : ∃ k : Nat, (IntKind.u64.wrap a).tmod ((n + 1 : Nat) : Int) = (k : Int) ∧ k ≤ n := by
  obtain ⟨h0, _⟩ := u64_range a
  refine ⟨((IntKind.u64.wrap a).tmod ((n + 1 : Nat) : Int)).toNat, ?_, ?_⟩
  · have := Int.tmod_nonneg ((n + 1 : Nat) : Int) h0
    omega
  · have := Int.tmod_lt_of_pos (IntKind.u64.wrap a) (show (0 : Int) < ((n + 1 : Nat) : Int) by omega)
    omega
theorem err_six {c : Nat} {E : Nat → Value} (h : c = 6 ∨ c = 9) : errV E c = E c := errV_pos (by omega)
structure E69 (F : List Seg) (E : Nat → Value) (Q : Nat → Addr) : Prop where
  t6 : GErr F 1 (E 6)
  t9 : GErr F 0 (E 9)
  e6 : ErrAt F 143 (E 6) (Q 6)
  e9 : ErrAt F 143 (E 9) (Q 9)
theorem E69.er {F : List Seg} {E : Nat → Value} {Q : Nat → Addr} (h : E69 F E Q) {n : Nat} (hn : n = 6 ∨ n = 9) : ErrAt F 143 (E n) (Q n) := by
  rcases hn with rfl | rfl
  · exact h.e6
  · exact h.e9
theorem err69_ie {F : List Seg} {E : Nat → Value} {Q : Nat → Addr} (h : E69 F E Q) {n : Nat} (hn : n = 0 ∨ n = 6 ∨ n = 9) : isErr (errV E n) = true ∧ isNil (errV E n) = decide (n = 0) := by
  rcases hn with rfl | rfl | rfl
  · exact ⟨rfl, rfl⟩
  · exact ⟨h.t6.ie, h.t6.nn⟩
  · exact ⟨h.t9.ie, h.t9.nn⟩
theorem sl_prg0 {F : List Seg} : SlAt F none (stepsV prg0.steps) := SlAt.nil
theorem stp99_len : (stpM 99).v.length = 7 := rfl

theorem lives2_b {w0 w : World} {F : List Seg} {E : Nat → Value} (H : Hp w0 w F) (g9 : GErr F 0 (E 9)) (hT : SlAt F (some ⟨19, 0, none⟩) tableC) (ht : GTab F) : Ret Tryd.prog 7 [] w fun v w' => v = .bool true ∧ Hp w0 w' F := by
  refine Calls.of_J (n := 16) Tryd.func7 rfl rfl rfl ?_
  refine J.seq ?_
  refine J.region ?_
  refine JL.go trivial (RX.assign) ?_
  refine JL.nil ?_
  refine J.seq ?_
  refine J.region ?_
  refine JL.go trivial (RX.build (pv := [(0, .int .i64 5), (3, .int .i64 1), (4, .int .i64 1), (5, .int .i64 2)]) (res := lv.v) rfl (by kernel_rfl)) ?_
  refine JL.does trivial (EX.buildSlice (pv := [(0, .agg lv.v.toArray)]) (l := stepsV [lv]) (e := 26) H rfl (by kernel_rfl)) ?_
  rintro _ w ⟨bs, rfl, H⟩
  refine JL.go trivial (RX.build (pv := [(0, .int .i64 2), (1, .int .i64 2), (4, .slice (some ⟨bs, 0, none⟩) 1 1)]) (res := prgV pLv (some ⟨bs, 0, none⟩) 1 1) rfl (by kernel_rfl)) ?_
  refine JL.does trivial (EX.call rfl cl8 rfl ((text_b (p := pLv) H g9.cons hT.cons ht.cons pLv_ok (SlAt.here rfl) (by decide)))) ?_
  rintro _ w ⟨rfl, H⟩
  rw [textR_eq, lv_ok2]
  refine JL.go trivial (RX.movev (v := Value.tuple _) rfl) ?_
  refine JL.go trivial (RX.extract (v := .string ⟨(textO pLv).toArray⟩) rfl rfl) ?_
  refine JL.go trivial (RX.extract (v := Value.nilIface) rfl rfl) ?_
  refine JL.go trivial (RX.assignv (v := Value.string _) rfl) ?_
  refine JL.go trivial (RX.assignv (v := Value.nilIface) rfl) ?_
  refine JL.nil ?_
  refine J.seq ?_
  refine J.region ?_
  refine JL.go trivial (RX.movev (v := Value.string _) rfl) ?_
  refine JL.go trivial (RX.str_eql rfl rfl) ?_
  refine JL.go trivial (RX.movev (v := Value.bool _) rfl) ?_
  refine JL.go ⟨_, rfl, (decide_eq_true lv_txt)⟩ (RX.movev (v := Value.nilIface) rfl) ?_
  refine JL.go ⟨_, rfl, (decide_eq_true lv_txt)⟩ (RX.ifnil_eql (v := Value.nilIface) rfl rfl rfl if29) ?_
  refine JL.go trivial (RX.pick_t rfl (decide_eq_true lv_txt)) ?_
  refine JL.go trivial (RX.assignv (v := Value.bool _) rfl) ?_
  refine JL.nil ?_
  refine J.ret1 (v := Value.bool _) Tryd.func7 rfl rfl ?_
  exact ⟨_, rfl, rfl, H.drop⟩
set_option maxHeartbeats 1600000 in
theorem ListingBack_b {w0 w : World} {F : List Seg} {E : Nat → Value} {Q : Nat → Addr} (H : Hp w0 w F) (hE : E69 F E Q) (hT : SlAt F (some ⟨19, 0, none⟩) tableC) (ht : GTab F) (hg : RdG F) {p : Prg} {pp : Option Addr} {pc : Nat} (hst : SlAt F pp (stepsV p.steps)) (hp : p.Ok) (hn : p.steps.length ≤ 1048576) {s : List UInt8} (hs : s.length ≤ 1048576) : Ret Tryd.prog 5 [.agg (prgV p pp p.steps.length pc).toArray, .string ⟨s.toArray⟩] w fun v w' => v = .bool true ∧ Hp w0 w' F := by
  refine Calls.of_J (n := 179) Tryd.func5 rfl rfl rfl ?_
  refine J.seq ?_
  have g9 := hE.t9
  have g6 := hE.t6
  have htl := textO_len hp
  refine J.region ?_
  refine JL.does trivial (EX.box (v := Value.agg _) H rfl rfl) ?_
  rintro _ w ⟨b1, rfl, H⟩
  refine JL.go trivial (RX.assign) ?_
  refine JL.nil ?_
  refine J.seq ?_
  refine J.region ?_
  refine JL.does trivial (EX.call rfl cl7 rfl ((lives2_b H g9.cons hT.cons ht.cons))) ?_
  rintro _ w ⟨rfl, H⟩
  refine JL.go trivial (RX.assignv (v := Value.bool _) rfl) ?_
  refine JL.nil ?_
  refine J.seq ?_
  refine J.seq ?_
  refine J.region ?_
  refine JL.go trivial (RX.movev (v := Value.bool _) rfl) ?_
  refine JL.go trivial (RX.not rfl) ?_
  refine JL.nil ?_
  refine J.cond_f rfl rfl ?_
  refine J.skip ?_
  refine J.seq ?_
  refine J.region ?_
  refine JL.go trivial (RX.loadAgg H rfl (i := 0) (vs := prgV p pp p.steps.length pc) rfl rfl ag24) ?_
  refine JL.does trivial (EX.call rfl cl8 rfl ((text_b (p := p) H g9.cons hT.cons ht.cons hp hst.cons (by omega)))) ?_
  rintro _ w ⟨rfl, H⟩
  rw [textR_eq]
  refine JL.go trivial (RX.movev (v := Value.tuple _) rfl) ?_
  refine JL.go trivial (RX.extract (v := .string ⟨(textO p).toArray⟩) rfl rfl) ?_
  refine JL.go trivial (RX.extract (v := e9 E (textOk p)) rfl rfl) ?_
  refine JL.go trivial (RX.assignv (v := Value.string _) rfl) ?_
  refine JL.go trivial (RX.assignv (v := e9 E (textOk p)) rfl) ?_
  refine JL.nil ?_
  refine J.seq ?_
  refine J.region ?_
  refine JL.go trivial (RX.assign) ?_
  refine JL.nil ?_
  refine J.seq ?_
  refine J.region ?_
  refine JL.go trivial (RX.assign) ?_
  refine JL.nil ?_
  refine J.seq ?_
  refine J.seq ?_
  refine J.region ?_
  refine JL.go trivial (RX.fieldAddr rfl fo24_4 rfl) ?_
  refine JL.go trivial (RX.load H rfl (i := 0) (v := .slice pp p.steps.length pc) rfl rfl one22) ?_
  refine JL.go trivial (RX.len_slice rfl (by rw [sl22]; rfl) rfl) ?_
  refine JL.go trivial (RX.move) ?_
  refine JL.nil ?_
  refine J.block ?_
  refine J.loop (ι := Nat) (S := fun k => [(35, .int .i64 (k : Nat)), (8, .string ⟨(lnsO p k).toArray⟩), (9, .bool ((p.steps.take k).all formB))]) (Φ := fun k w => k ≤ p.steps.length ∧ (lnsO p k).length ≤ 65536 ∧ Hp w0 w ([(b1, cel (prgV p pp p.steps.length pc) 24)] :: F)) (μ := fun k => p.steps.length - k) (C := [(1, _), (2, _), (6, _), (7, _), (33, _), (34, _)]) 0 ⟨rfl, rfl, rfl, rfl, rfl, rfl, trivial⟩ ⟨rfl, rfl, rfl, trivial⟩ ?_ ?_
  · exact ⟨by omega, by simp [lnsO], H⟩
  clear H
  rintro k ρ w ⟨hk, hkl, H⟩ IH
  refine J.seq ?_
  refine J.region ?_
  refine JL.go trivial (RX.lt rfl rfl) ?_
  refine JL.nil ?_
  refine J.seq ?_
  refine J.cond_d rfl (fun hlt => ?_) (fun hlt => ?_)
  · skip
    have hklt : k < p.steps.length := by omega
    obtain ⟨x, hx⟩ : ∃ x, p.steps[k]? = some x := ⟨_, List.getElem?_eq_getElem hklt⟩
    have hxok := hp.steps x (List.mem_of_getElem? hx)
    have hxl := lineO_len hxok
    have hls := lns_succ hx
    have hll : (lnsO p (k + 1)).length = (lnsO p k).length + ((lineO x).length + 1) := by rw [hls]; simp
    obtain ⟨pb, po, rfl⟩ : ∃ pb po, pp = some ⟨pb, po, none⟩ := by
      rcases hst with h | ⟨b', off, C, T, fz, h, _⟩
      · exact absurd (congrArg List.length h) (by rw [stepsV_len]; simp; omega)
      · exact ⟨b', off, h⟩
    refine J.skip ?_
    refine J.seq ?_
    refine J.block ?_
    refine J.seq ?_
    refine J.region ?_
    refine JL.go trivial (RX.indexAddr rfl rfl sl22 (by omega) (by omega) (o' := po + k * 7) (by omega)) ?_
    refine JL.go trivial (RX.loadAggS H hst.cons rfl (j := k * 7) (by omega) (vs := x.v) (stepsV_read _ _ _ hx) ag26) ?_
    refine JL.does trivial (EX.alloc H zr26 rfl) ?_
    rintro _ w ⟨b8, rfl, H⟩
    refine JL.does trivial (EX.storeAgg H rfl rfl (i := 0) (vs := x.v) (l' := x.v) rfl (stp_cell _) (by simp [Stp.v]) sz26 rfl rfl) ?_
    rintro _ w H
    refine JL.nil ?_
    refine J.seq ?_
    refine J.region ?_
    refine JL.go trivial (RX.loadAgg H rfl (i := 0) (vs := x.v) rfl rfl ag26) ?_
    refine JL.does trivial (EX.call rfl cl12 rfl ((line_b H g9.cons.cons hT.cons.cons ht.cons.cons hxok))) ?_
    rintro _ w ⟨rfl, H⟩
    rw [lineR_eq]
    refine JL.go trivial (RX.movev (v := Value.tuple _) rfl) ?_
    refine JL.go trivial (RX.extract (v := .string ⟨(lineO x).toArray⟩) rfl rfl) ?_
    refine JL.go trivial (RX.extract (v := e9 E (formB x)) rfl rfl) ?_
    refine JL.go trivial (RX.assignv (v := Value.string _) rfl) ?_
    refine JL.go trivial (RX.assignv (v := e9 E (formB x)) rfl) ?_
    refine JL.nil ?_
    refine J.seq ?_
    refine J.join (ι := Bool) (fun c => [(9, .bool c)]) (fun c w => c = (p.steps.take (k + 1)).all formB ∧ Hp w0 w ([(b8, cel x.v 26)] :: [(b1, cel (prgV p (some ⟨pb, po, none⟩) p.steps.length pc) 24)] :: F)) [(1, _), (2, _), (6, _), (7, _), (8, _), (12, _), (33, _), (34, _), (35, _)] ⟨rfl, rfl, rfl, rfl, rfl, rfl, rfl, rfl, rfl, trivial⟩ ?_ ?_
    rotate_left
    · skip
      intro k2 hk2
      refine J.region ?_
      refine JL.go trivial (RX.movev (v := Value.bool _) rfl) ?_
      refine JL.go trivial (RX.movev (v := Value.bool _) rfl) ?_
      refine JL.splitS 45 rfl (fun hgd => ?_) (fun hgd => ?_)
      · skip
        first | have hgdp := of_decide_eq_true hgd | skip
        refine JL.go ⟨_, rfl, hgd⟩ (RX.movev (v := e9 E (formB x)) rfl) ?_
        refine JL.go ⟨_, rfl, hgd⟩ (RX.ifnil_eql (v := e9 E (formB x)) rfl rfl (e9_ie g9 (formB x)).1 if29) ?_
        refine JL.go trivial (RX.pick_t rfl hgd) ?_
        refine JL.go trivial (RX.assignv (v := Value.bool _) rfl) ?_
        refine JL.nil ?_
        first
        | exact hk2 (isNil (e9 E (formB x))) _ _ ⟨rfl, rfl, rfl, rfl, rfl, rfl, rfl, rfl, rfl, trivial⟩ ⟨rfl, trivial⟩ ⟨by rw [all_succ hx, hgd, Bool.true_and, (e9_ie g9 (formB x)).2], H⟩
        | exact hk2 false _ _ ⟨rfl, rfl, rfl, rfl, rfl, rfl, rfl, rfl, rfl, trivial⟩ ⟨rfl, trivial⟩ ⟨by rw [all_succ hx, hgd, Bool.false_and], H⟩
      · skip
        first | have hgdp := of_decide_eq_false hgd | skip
        refine JL.no ⟨_, rfl, gno hgd⟩ ?_
        refine JL.no ⟨_, rfl, gno hgd⟩ ?_
        refine JL.go trivial (RX.pick_f rfl hgd) ?_
        refine JL.go trivial (RX.assignv (v := Value.bool _) rfl) ?_
        refine JL.nil ?_
        first
        | exact hk2 (isNil (e9 E (formB x))) _ _ ⟨rfl, rfl, rfl, rfl, rfl, rfl, rfl, rfl, rfl, trivial⟩ ⟨rfl, trivial⟩ ⟨by rw [all_succ hx, hgd, Bool.true_and, (e9_ie g9 (formB x)).2], H⟩
        | exact hk2 false _ _ ⟨rfl, rfl, rfl, rfl, rfl, rfl, rfl, rfl, rfl, trivial⟩ ⟨rfl, trivial⟩ ⟨by rw [all_succ hx, hgd, Bool.false_and], H⟩
    · skip
      clear H
      rintro c ρ w ⟨rfl, H⟩
      refine J.seq ?_
      refine J.region ?_
      refine JL.go trivial (RX.movev (v := Value.string _) rfl) ?_
      refine JL.go trivial (RX.movev (v := Value.string _) rfl) ?_
      refine JL.go trivial (RX.strL (a := lineO x) (b := [10]) (r := lineO x ++ [10]) rfl rfl rfl (by simp; omega)) ?_
      refine JL.go trivial (RX.strL (a := lnsO p k) (b := lineO x ++ [10]) (r := lnsO p (k + 1)) rfl rfl hls.symm (by omega)) ?_
      refine JL.go trivial (RX.assignv (v := Value.string _) rfl) ?_
      refine JL.nil ?_
      refine J.seq ?_
      refine J.region ?_
      refine JL.go trivial (RX.movev (v := Value.string _) rfl) ?_
      refine JL.go trivial (RX.len_string rfl ud9 (r := ((lnsO p (k + 1)).length : Int)) (by rw [b_size])) ?_
      refine JL.go trivial (RX.gt rfl rfl) ?_
      refine JL.nil ?_
      refine J.cond_d rfl (fun hbig => ?_) (fun hbig => ?_)
      · skip
        refine J.seq ?_
        refine J.region ?_
        refine JL.go trivial (RX.assign) ?_
        refine JL.nil ?_
        refine J.ret1 (v := Value.bool _) Tryd.func5 rfl rfl ?_
        first
        | exact ⟨_, rfl, rfl, H.drop.drop⟩
        | exact ⟨_, rfl, rfl, H.drop.drop.drop⟩
        | exact ⟨_, rfl, congrArg Value.bool (decide_eq_true (by rw [hl0]; rfl)), H.drop.drop.drop⟩
        | exact ⟨_, rfl, congrArg Value.bool (decide_eq_true (by rw [hc69.resolve_left (fun h => he6p (by rw [h]))])), H.drop.drop.drop⟩
      · skip
        refine J.skip ?_
        refine J.inBlock ?_
        refine J.region ?_
        refine JL.go trivial (RX.add rfl rfl (w_i64 (r := ((k + 1 : Nat) : Int)) (by omega) (by omega) (by omega))) ?_
        refine JL.go trivial (RX.movev (v := Value.int _ _) rfl) ?_
        refine JL.nil ?_
        exact IH (k + 1) _ _ (by omega) ⟨rfl, rfl, rfl, rfl, rfl, rfl, trivial⟩ ⟨rfl, rfl, rfl, trivial⟩ ⟨by omega, by omega, H.drop⟩
  · skip
    have hk0 : k = p.steps.length := by omega
    subst hk0
    have hgd : (p.steps.take p.steps.length).all formB = textOk p := by rw [List.take_length]; rfl
    have h61 : (!((p.steps.take p.steps.length).all formB == isNil (e9 E (textOk p)))) = false := by rw [hgd, (e9_ie g9 (textOk p)).2]; cases textOk p <;> rfl
    refine J.exit rfl ?_
    refine J.seq ?_
    refine J.seq ?_
    refine J.join (ι := Bool) (fun q => [(73, .bool q)]) (fun q w => q = false ∧ Hp w0 w ([(b1, cel (prgV p pp p.steps.length pc) 24)] :: F)) [(1, _), (2, _), (6, _), (7, _), (8, _)] ⟨rfl, rfl, rfl, rfl, rfl, trivial⟩ ?_ ?_
    rotate_left
    · skip
      intro k2 hk2
      refine J.region ?_
      refine JL.go trivial (RX.movev (v := Value.bool _) rfl) ?_
      refine JL.go trivial (RX.movev (v := e9 E (textOk p)) rfl) ?_
      refine JL.go trivial (RX.ifnil_eql (v := e9 E (textOk p)) rfl rfl (e9_ie g9 (textOk p)).1 if29) ?_
      refine JL.go trivial (RX.bool_neq rfl rfl ud4) ?_
      refine JL.go trivial (RX.movev (v := Value.bool _) rfl) ?_
      refine JL.go ⟨_, rfl, h61⟩ (RX.movev (v := e9 E (textOk p)) rfl) ?_
      refine JL.go ⟨_, rfl, h61⟩ (RX.ifnil_neq (v := e9 E (textOk p)) rfl rfl (e9_ie g9 (textOk p)).1 if29) ?_
      refine JL.go ⟨_, rfl, h61⟩ (RX.movev (v := Value.bool _) rfl) ?_
      refine JL.splitS 64 rfl (fun hne => ?_) (fun hne => ?_)
      · skip
        first | have hnep := of_decide_eq_true hne | skip
        have htf : textOk p = false := by simpa [(e9_ie g9 (textOk p)).2] using hne
        have hE9 : e9 E (textOk p) = E 9 := by rw [htf]; rfl
        have her := hE.e9.cons (s := [(b1, cel (prgV p pp p.steps.length pc) 24)])
        refine JL.go ⟨_, rfl, hne⟩ (RX.movev (v := e9 E (textOk p)) rfl) ?_
        refine JL.go ⟨_, rfl, hne⟩ (RX.loadG H rfl g9.at_.cons one29) ?_
        refine JL.go ⟨_, rfl, hne⟩ (RX.err_neq (u := e9 E (textOk p)) (v := E 9) H rfl rfl (hE9 ▸ her) her if29 ptE) ?_
        refine JL.go ⟨_, rfl, hne⟩ (RX.movev (v := Value.bool _) rfl) ?_
        refine JL.go ⟨_, rfl, (by simp)⟩ (RX.movev (v := Value.string _) rfl) ?_
        refine JL.go ⟨_, rfl, (by simp)⟩ (RX.str_neq rfl rfl) ?_
        refine JL.go ⟨_, rfl, hne⟩ (RX.pick_f rfl (by simp)) ?_
        refine JL.go ⟨_, rfl, h61⟩ (RX.pick_t rfl hne) ?_
        refine JL.go trivial (RX.pick_f rfl h61) ?_
        refine JL.nil ?_
        first
        | exact hk2 false _ _ ⟨rfl, rfl, rfl, rfl, rfl, trivial⟩ ⟨rfl, trivial⟩ ⟨rfl, H⟩
        | exact hk2 _ _ _ ⟨rfl, rfl, rfl, rfl, rfl, trivial⟩ ⟨rfl, trivial⟩ ⟨decide_eq_false (fun h => h (by rw [textO_no htf])), H⟩
      · skip
        first | have hnep := of_decide_eq_false hne | skip
        refine JL.no ⟨_, rfl, gno hne⟩ ?_
        refine JL.no ⟨_, rfl, gno hne⟩ ?_
        refine JL.no ⟨_, rfl, gno hne⟩ ?_
        refine JL.no ⟨_, rfl, gno hne⟩ ?_
        refine JL.no ⟨_, rfl, nofun⟩ ?_
        refine JL.no ⟨_, rfl, nofun⟩ ?_
        refine JL.no ⟨_, rfl, gno hne⟩ ?_
        refine JL.go ⟨_, rfl, h61⟩ (RX.pick_f rfl hne) ?_
        refine JL.go trivial (RX.pick_f rfl h61) ?_
        refine JL.nil ?_
        first
        | exact hk2 false _ _ ⟨rfl, rfl, rfl, rfl, rfl, trivial⟩ ⟨rfl, trivial⟩ ⟨rfl, H⟩
        | exact hk2 _ _ _ ⟨rfl, rfl, rfl, rfl, rfl, trivial⟩ ⟨rfl, trivial⟩ ⟨decide_eq_false (fun h => h (by rw [textO_no htf])), H⟩
    · skip
      clear H
      rintro q ρ w ⟨hq, H⟩
      refine J.cond_f rfl hq ?_
      refine J.skip ?_
      refine J.seq ?_
      refine J.seq ?_
      refine J.region ?_
      refine JL.go trivial (RX.movev (v := e9 E (textOk p)) rfl) ?_
      refine JL.go trivial (RX.ifnil_eql (v := e9 E (textOk p)) rfl rfl (e9_ie g9 (textOk p)).1 if29) ?_
      refine JL.nil ?_
      refine J.join (ι := Unit) (fun _ => []) (fun _ w => Hp w0 w ([(b1, cel (prgV p pp p.steps.length pc) 24)] :: F)) [(1, _)] ⟨rfl, trivial⟩ ?_ ?_
      rotate_left
      · skip
        intro k2 hk2
        refine J.cond rfl (fun hok => ?_) (fun hok => ?_)
        · skip
          have hok2 : textOk p = true := by simpa [(e9_ie g9 (textOk p)).2] using hok
          have hrd : readS (textO p) = .ok p := by rw [textO_ok hok2]; exact read_there hp hok2
          have hsp := text_split hok2
          have hspl : (textO p).length = (headL p).length + 1 + (lnsO p p.steps.length).length := by rw [hsp]; simp; omega
          refine J.seq ?_
          refine J.region ?_
          refine JL.go trivial (RX.movev (v := Value.string _) rfl) ?_
          refine JL.does trivial (EX.call rfl cl14 rfl ((Read_b H g6.cons g9.cons hT.cons ht.cons hg.cons (s := textO p) (by omega)))) ?_
          rintro _ w ⟨ps, h1, H⟩
          rw [hrd] at h1
          obtain ⟨qp, qpc, rfl, hops⟩ := h1
          have hops : OwnSl 26 7 qp p.steps.length qpc (stepsV p.steps) ps := hops
          refine JL.go trivial (RX.movev (v := Value.tuple _) rfl) ?_
          refine JL.go trivial (RX.extract (v := .agg (prgV p qp p.steps.length qpc).toArray) rfl rfl) ?_
          refine JL.go trivial (RX.extract (v := .int .i64 ((0 : Nat) : Int)) rfl rfl) ?_
          refine JL.go trivial (RX.extract (v := Value.nilIface) rfl rfl) ?_
          refine JL.does trivial (EX.alloc H zr24 rfl) ?_
          rintro _ w ⟨b2, rfl, H⟩
          refine JL.does trivial (EX.storeAgg H rfl rfl (i := 0) (vs := prgV p qp p.steps.length qpc) (l' := prgV p qp p.steps.length qpc) rfl prgV_cell (by simp [prgV]) sz24 rfl rfl) ?_
          rintro _ w H
          refine JL.go trivial (RX.assignv (v := Value.int _ _) rfl) ?_
          refine JL.go trivial (RX.assignv (v := Value.nilIface) rfl) ?_
          refine JL.nil ?_
          refine J.seq ?_
          refine J.region ?_
          refine JL.go trivial (RX.movev (v := Value.string _) rfl) ?_
          refine JL.does trivial (EX.call rfl cl14 rfl ((Read_b H g6.cons.cons.cons g9.cons.cons.cons hT.cons.cons.cons ht.cons.cons.cons hg.cons.cons.cons (s := textO p) (by omega)))) ?_
          rintro _ w ⟨ps2, h1, H⟩
          rw [hrd] at h1
          obtain ⟨rp, rpc, rfl, hops2⟩ := h1
          have hops2 : OwnSl 26 7 rp p.steps.length rpc (stepsV p.steps) ps2 := hops2
          refine JL.go trivial (RX.movev (v := Value.tuple _) rfl) ?_
          refine JL.go trivial (RX.extract (v := .agg (prgV p rp p.steps.length rpc).toArray) rfl rfl) ?_
          refine JL.go trivial (RX.extract (v := .int .i64 ((0 : Nat) : Int)) rfl rfl) ?_
          refine JL.go trivial (RX.extract (v := Value.nilIface) rfl rfl) ?_
          refine JL.does trivial (EX.alloc H zr24 rfl) ?_
          rintro _ w ⟨b3, rfl, H⟩
          refine JL.does trivial (EX.storeAgg H rfl rfl (i := 0) (vs := prgV p rp p.steps.length rpc) (l' := prgV p rp p.steps.length rpc) rfl prgV_cell (by simp [prgV]) sz24 rfl rfl) ?_
          rintro _ w H
          refine JL.go trivial (RX.assignv (v := Value.int _ _) rfl) ?_
          refine JL.go trivial (RX.assignv (v := Value.nilIface) rfl) ?_
          refine JL.nil ?_
          refine J.seq ?_
          refine J.seq ?_
          refine J.region ?_
          refine JL.go trivial (RX.movev (v := Value.nilIface) rfl) ?_
          refine JL.go trivial (RX.ifnil_neq (v := Value.nilIface) rfl rfl rfl if29) ?_
          refine JL.go trivial (RX.movev (v := Value.bool _) rfl) ?_
          refine JL.go ⟨_, rfl, rfl⟩ (RX.movev (v := Value.nilIface) rfl) ?_
          refine JL.go ⟨_, rfl, rfl⟩ (RX.ifnil_neq (v := Value.nilIface) rfl rfl rfl if29) ?_
          refine JL.go trivial (RX.pick_f rfl rfl) ?_
          refine JL.go trivial (RX.movev (v := Value.bool _) rfl) ?_
          refine JL.go ⟨_, rfl, rfl⟩ (RX.movev (v := Value.int _ _) rfl) ?_
          refine JL.go ⟨_, rfl, rfl⟩ (RX.ne rfl rfl) ?_
          refine JL.go trivial (RX.pick_f rfl rfl) ?_
          refine JL.go trivial (RX.movev (v := Value.bool _) rfl) ?_
          refine JL.go ⟨_, rfl, (decide_eq_false (fun h => h rfl))⟩ (RX.loadAgg H rfl (i := 2) (vs := prgV p qp p.steps.length qpc) rfl rfl ag24) ?_
          refine JL.go ⟨_, rfl, (decide_eq_false (fun h => h rfl))⟩ (RX.loadAgg H rfl (i := 4) (vs := prgV p pp p.steps.length pc) rfl rfl ag24) ?_
          refine JL.does ⟨_, rfl, (decide_eq_false (fun h => h rfl))⟩ (EX.call rfl cl11 rfl ((rSame_b H (SlAt.cons (SlAt.cons (SlAt.cons hops.slAt))) hst.cons.cons.cons.cons.cons (by omega) (by omega)))) ?_
          rintro _ w ⟨rfl, H⟩
          refine JL.go ⟨_, rfl, (decide_eq_false (fun h => h rfl))⟩ (RX.not rfl) ?_
          refine JL.go trivial (RX.pick_f rfl (decide_eq_false (fun h => h rfl))) ?_
          refine JL.go trivial (RX.movev (v := Value.bool _) rfl) ?_
          refine JL.go ⟨_, rfl, (by simp)⟩ (RX.movev (v := Value.string _) rfl) ?_
          refine JL.go ⟨_, rfl, (by simp)⟩ (RX.len_string rfl ud9 (r := ((textO p).length : Int)) (by rw [b_size])) ?_
          refine JL.go ⟨_, rfl, (by simp)⟩ (RX.movev (v := Value.string _) rfl) ?_
          refine JL.go ⟨_, rfl, (by simp)⟩ (RX.len_string rfl ud9 (r := ((lnsO p p.steps.length).length : Int)) (by rw [b_size])) ?_
          refine JL.go ⟨_, rfl, (by simp)⟩ (RX.lt rfl rfl) ?_
          refine JL.go trivial (RX.pick_f rfl (by simp)) ?_
          refine JL.go trivial (RX.movev (v := Value.bool _) rfl) ?_
          refine JL.go ⟨_, rfl, (decide_eq_false (by omega))⟩ (RX.movev (v := Value.string _) rfl) ?_
          refine JL.go ⟨_, rfl, (decide_eq_false (by omega))⟩ (RX.movev (v := Value.string _) rfl) ?_
          refine JL.go ⟨_, rfl, (decide_eq_false (by omega))⟩ (RX.len_string rfl ud9 (r := ((textO p).length : Int)) (by rw [b_size])) ?_
          refine JL.go ⟨_, rfl, (decide_eq_false (by omega))⟩ (RX.movev (v := Value.string _) rfl) ?_
          refine JL.go ⟨_, rfl, (decide_eq_false (by omega))⟩ (RX.len_string rfl ud9 (r := ((lnsO p p.steps.length).length : Int)) (by rw [b_size])) ?_
          refine JL.go ⟨_, rfl, (decide_eq_false (by omega))⟩ (RX.sub rfl rfl (w_i64 (r := ((headL p).length + 1 : Nat)) (by omega) (by omega) (by omega))) ?_
          refine JL.go ⟨_, rfl, (decide_eq_false (by omega))⟩ (RX.slStrL (a := textO p) (r := lnsO p p.steps.length) rfl rfl ud9 (by omega) (by omega) (by rw [hsp, show (((headL p).length + 1 : Nat) : Int).toNat = (headL p ++ [10]).length by simp]; exact List.drop_left)) ?_
          refine JL.go ⟨_, rfl, (decide_eq_false (by omega))⟩ (RX.movev (v := Value.string _) rfl) ?_
          refine JL.go ⟨_, rfl, (decide_eq_false (by omega))⟩ (RX.str_neq rfl rfl) ?_
          refine JL.go trivial (RX.pick_f rfl (decide_eq_false (by omega))) ?_
          refine JL.nil ?_
          refine J.cond_f rfl (by simp) ?_
          refine J.skip ?_
          refine J.seq ?_
          refine J.seq ?_
          refine J.region ?_
          refine JL.go trivial (RX.fieldAddr rfl fo24_4 rfl) ?_
          refine JL.go trivial (RX.load H rfl (i := 2) (v := .slice qp p.steps.length qpc) rfl rfl one22) ?_
          refine JL.go trivial (RX.len_slice rfl (by rw [sl22]; rfl) rfl) ?_
          refine JL.go trivial (RX.move) ?_
          refine JL.nil ?_
          refine J.block ?_
          refine J.loop (ι := Nat × Seg) (S := fun q => [(125, .int .i64 (q.1 : Nat))]) (Φ := fun q w => q.1 ≤ p.steps.length ∧ (∃ xs, OwnSl 26 7 qp p.steps.length qpc xs q.2) ∧ Hp w0 w ([(b3, cel (prgV p rp p.steps.length rpc) 24)] :: ps2 :: [(b2, cel (prgV p qp p.steps.length qpc) 24)] :: q.2 :: [(b1, cel (prgV p pp p.steps.length pc) 24)] :: F)) (μ := fun q => p.steps.length - q.1) (C := [(1, _), (2, _), (14, _), (17, _), (124, _)]) (0, ps) ⟨rfl, rfl, rfl, rfl, rfl, trivial⟩ ⟨rfl, trivial⟩ ?_ ?_
          · exact ⟨by simp only; omega, ⟨_, hops⟩, H⟩
          clear H
          rintro ⟨k, sg⟩ ρ w ⟨hk, ⟨xs, hox⟩, H⟩ IH
          simp only at hk hox H
          dsimp only
          refine J.seq ?_
          refine J.region ?_
          refine JL.go trivial (RX.lt rfl rfl) ?_
          refine JL.nil ?_
          refine J.seq ?_
          refine J.cond_d rfl (fun hlt => ?_) (fun hlt => ?_)
          · skip
            obtain ⟨g, l, rfl, rfl, hcn, hlc, _⟩ := hox.ptr (by omega)
            refine J.skip ?_
            refine J.seq ?_
            refine J.block ?_
            refine J.seq ?_
            refine J.region ?_
            refine JL.go trivial (RX.movev (v := Value.int _ _) rfl) ?_
            refine JL.go trivial (RX.assignv (v := Value.int _ _) rfl) ?_
            refine JL.nil ?_
            refine J.region ?_
            refine JL.go trivial (RX.fieldAddr rfl fo24_4 rfl) ?_
            refine JL.go trivial (RX.load H rfl (i := 2) (v := .slice (some ⟨g, 0, none⟩) p.steps.length qpc) rfl rfl one22) ?_
            refine JL.go trivial (RX.movev (v := Value.int _ _) rfl) ?_
            refine JL.go trivial (RX.build (pv := [(0, .int .i64 99)]) (res := (stpM 99).v) rfl (by kernel_rfl)) ?_
            refine JL.go trivial (RX.indexAddr rfl rfl sl22 (by omega) (by omega) (o' := k * 7) (by omega)) ?_
            refine JL.does trivial (EX.storeAgg H rfl rfl (i := 3) (vs := (stpM 99).v) (l' := setN l (k * 7) (stpM 99).v) rfl (stp_cell _) (by rw [stp99_len]; omega) sz26 rfl rfl) ?_
            rintro _ w H
            refine JL.nil ?_
            refine J.inBlock ?_
            refine J.region ?_
            refine JL.go trivial (RX.add rfl rfl (w_i64 (r := ((k + 1 : Nat) : Int)) (by omega) (by omega) (by omega))) ?_
            refine JL.go trivial (RX.movev (v := Value.int _ _) rfl) ?_
            refine JL.nil ?_
            exact IH (k + 1, [(g, cel (setN l (k * 7) (stpM 99).v) 26)]) _ _ (by simp only; omega) ⟨rfl, rfl, rfl, rfl, rfl, trivial⟩ ⟨rfl, trivial⟩ ⟨by simp only; omega, ⟨_, OwnSl.setN hox⟩, H⟩
          · skip
            refine J.exit rfl ?_
            refine J.seq ?_
            refine J.region ?_
            refine JL.go trivial (RX.loadAgg H rfl (i := 0) (vs := prgV p rp p.steps.length rpc) rfl rfl ag24) ?_
            refine JL.go trivial (RX.loadAgg H rfl (i := 4) (vs := prgV p pp p.steps.length pc) rfl rfl ag24) ?_
            refine JL.does trivial (EX.call rfl cl11 rfl ((rSame_b H (SlAt.cons hops2.slAt) hst.cons.cons.cons.cons.cons (by omega) (by omega)))) ?_
            rintro _ w ⟨rfl, H⟩
            refine JL.go trivial (RX.not rfl) ?_
            refine JL.nil ?_
            refine J.cond_f rfl (by simp) ?_
            refine J.skip ?_
            first | exact hk2 () _ _ ⟨rfl, trivial⟩ trivial H | exact hk2 () _ _ ⟨rfl, trivial⟩ trivial H.drop.drop.drop.drop
        · skip
          refine J.skip ?_
          first | exact hk2 () _ _ ⟨rfl, trivial⟩ trivial H | exact hk2 () _ _ ⟨rfl, trivial⟩ trivial H.drop.drop.drop.drop
      · skip
        clear H
        rintro _ ρ w H
        refine J.seq ?_
        refine J.region ?_
        refine JL.go trivial (RX.movev (v := Value.string _) rfl) ?_
        refine JL.does trivial (EX.call rfl cl14 rfl ((Read_b H g6.cons g9.cons hT.cons ht.cons hg.cons (s := s) (by omega)))) ?_
        rintro _ w ⟨ps, h1, H⟩
        obtain ⟨qp, qpc, rfl, hops⟩ := h1
        refine JL.go trivial (RX.movev (v := Value.tuple _) rfl) ?_
        refine JL.go trivial (RX.extract (v := .agg (prgV (readS s).prg qp (readS s).prg.steps.length qpc).toArray) rfl rfl) ?_
        refine JL.go trivial (RX.extract (v := .int .i64 ((readS s).line : Nat)) rfl rfl) ?_
        refine JL.go trivial (RX.extract (v := errV E (readS s).code) rfl rfl) ?_
        refine JL.does trivial (EX.alloc H zr24 rfl) ?_
        rintro _ w ⟨b2, rfl, H⟩
        refine JL.does trivial (EX.storeAgg H rfl rfl (i := 0) (vs := prgV (readS s).prg qp (readS s).prg.steps.length qpc) (l' := prgV (readS s).prg qp (readS s).prg.steps.length qpc) rfl prgV_cell (by simp [prgV]) sz24 rfl rfl) ?_
        rintro _ w H
        refine JL.go trivial (RX.assignv (v := Value.int _ _) rfl) ?_
        refine JL.go trivial (RX.assignv (v := errV E (readS s).code) rfl) ?_
        refine JL.nil ?_
        have hln := readS_len s
        refine J.seq ?_
        refine J.seq ?_
        refine J.region ?_
        refine JL.go trivial (RX.movev (v := errV E (readS s).code) rfl) ?_
        refine JL.go trivial (RX.ifnil_neq (v := errV E (readS s).code) rfl rfl (err69_ie hE (readS_code s)).1 if29) ?_
        refine JL.nil ?_
        refine J.cond rfl (fun herr => ?_) (fun herr => ?_)
        · skip
          have hc0 : (readS s).code ≠ 0 := by simpa [(err69_ie hE (readS_code s)).2] using herr
          obtain ⟨hprg, hline, hc69⟩ := read_none hc0
          have hec : errV E (readS s).code = E (readS s).code := err_six hc69
          refine J.seq ?_
          refine J.region ?_
          refine JL.go trivial (RX.movev (v := Value.int _ _) rfl) ?_
          refine JL.go trivial (RX.ge rfl rfl) ?_
          refine JL.go trivial (RX.movev (v := Value.bool _) rfl) ?_
          refine JL.go ⟨_, rfl, (decide_eq_true (by omega))⟩ (RX.loadAgg H rfl (i := 0) (vs := prgV (readS s).prg qp (readS s).prg.steps.length qpc) rfl rfl ag24) ?_
          refine JL.go ⟨_, rfl, (decide_eq_true (by omega))⟩ (RX.build (pv := []) (res := prgV prg0 none 0 0) rfl (by kernel_rfl)) ?_
          refine JL.does ⟨_, rfl, (decide_eq_true (by omega))⟩ (EX.call rfl cl11 rfl ((rSame_b (q := prg0) (qp := none) (qc := 0) H (SlAt.cons hops.slAt) sl_prg0 (by omega) (by decide)))) ?_
          rintro _ w ⟨rfl, H⟩
          refine JL.go trivial (RX.pick_t rfl (decide_eq_true (by omega))) ?_
          refine JL.go trivial (RX.movev (v := Value.bool _) rfl) ?_
          refine JL.go ⟨_, rfl, (decide_eq_true hprg)⟩ (RX.movev (v := errV E (readS s).code) rfl) ?_
          refine JL.go ⟨_, rfl, (decide_eq_true hprg)⟩ (RX.loadG H rfl g6.at_.cons.cons.cons one29) ?_
          refine JL.go ⟨_, rfl, (decide_eq_true hprg)⟩ (RX.err_eql (u := errV E (readS s).code) (v := E 6) H rfl rfl (by rw [hec]; exact (hE.er hc69).cons.cons.cons) hE.e6.cons.cons.cons if29 ptE) ?_
          refine JL.go ⟨_, rfl, (decide_eq_true hprg)⟩ (RX.movev (v := Value.bool _) rfl) ?_
          refine JL.splitS 157 rfl (fun he6 => ?_) (fun he6 => ?_)
          · skip
            first | have he6p := of_decide_eq_true he6 | skip
            refine JL.no ⟨_, rfl, gno he6⟩ ?_
            refine JL.no ⟨_, rfl, gno he6⟩ ?_
            refine JL.no ⟨_, rfl, gno he6⟩ ?_
            refine JL.go ⟨_, rfl, (decide_eq_true hprg)⟩ (RX.pick_t rfl he6) ?_
            refine JL.go trivial (RX.pick_t rfl (decide_eq_true hprg)) ?_
            refine JL.go trivial (RX.assignv (v := Value.bool _) rfl) ?_
            refine JL.nil ?_
            refine J.ret1 (v := Value.bool _) Tryd.func5 rfl rfl ?_
            first
            | exact ⟨_, rfl, rfl, H.drop.drop⟩
            | exact ⟨_, rfl, rfl, H.drop.drop.drop⟩
            | exact ⟨_, rfl, congrArg Value.bool (decide_eq_true (by rw [hl0]; rfl)), H.drop.drop.drop⟩
            | exact ⟨_, rfl, congrArg Value.bool (decide_eq_true (by rw [hc69.resolve_left (fun h => he6p (by rw [h]))])), H.drop.drop.drop⟩
          · skip
            first | have he6p := of_decide_eq_false he6 | skip
            refine JL.go ⟨_, rfl, he6⟩ (RX.movev (v := errV E (readS s).code) rfl) ?_
            refine JL.go ⟨_, rfl, he6⟩ (RX.loadG H rfl g9.at_.cons.cons.cons one29) ?_
            refine JL.go ⟨_, rfl, he6⟩ (RX.err_eql (u := errV E (readS s).code) (v := E 9) H rfl rfl (by rw [hec]; exact (hE.er hc69).cons.cons.cons) hE.e9.cons.cons.cons if29 ptE) ?_
            refine JL.go ⟨_, rfl, (decide_eq_true hprg)⟩ (RX.pick_f rfl he6) ?_
            refine JL.go trivial (RX.pick_t rfl (decide_eq_true hprg)) ?_
            refine JL.go trivial (RX.assignv (v := Value.bool _) rfl) ?_
            refine JL.nil ?_
            refine J.ret1 (v := Value.bool _) Tryd.func5 rfl rfl ?_
            first
            | exact ⟨_, rfl, rfl, H.drop.drop⟩
            | exact ⟨_, rfl, rfl, H.drop.drop.drop⟩
            | exact ⟨_, rfl, congrArg Value.bool (decide_eq_true (by rw [hl0]; rfl)), H.drop.drop.drop⟩
            | exact ⟨_, rfl, congrArg Value.bool (decide_eq_true (by rw [hc69.resolve_left (fun h => he6p (by rw [h]))])), H.drop.drop.drop⟩
        · skip
          have hc0 : (readS s).code = 0 := by simpa [(err69_ie hE (readS_code s)).2] using herr
          obtain ⟨hl0, hqt, hqk, hqo⟩ := read_some hc0
          have hqo := hqo (by omega)
          refine J.skip ?_
          refine J.seq ?_
          refine J.region ?_
          refine JL.go trivial (RX.loadAgg H rfl (i := 0) (vs := prgV (readS s).prg qp (readS s).prg.steps.length qpc) rfl rfl ag24) ?_
          refine JL.does trivial (EX.call rfl cl8 rfl ((text_b (p := (readS s).prg) H g9.cons.cons.cons hT.cons.cons.cons ht.cons.cons.cons hqo (SlAt.cons hops.slAt) (by omega)))) ?_
          rintro _ w ⟨rfl, H⟩
          rw [textR_eq]
          refine JL.go trivial (RX.movev (v := Value.tuple _) rfl) ?_
          refine JL.go trivial (RX.extract (v := .string ⟨(textO (readS s).prg).toArray⟩) rfl rfl) ?_
          refine JL.go trivial (RX.extract (v := e9 E (textOk (readS s).prg)) rfl rfl) ?_
          refine JL.go trivial (RX.assignv (v := Value.string _) rfl) ?_
          refine JL.go trivial (RX.assignv (v := e9 E (textOk (readS s).prg)) rfl) ?_
          refine JL.nil ?_
          refine J.seq ?_
          refine J.region ?_
          refine JL.go trivial (RX.movev (v := e9 E (textOk (readS s).prg)) rfl) ?_
          refine JL.go trivial (RX.ifnil_eql (v := e9 E (textOk (readS s).prg)) rfl rfl (e9_ie g9 _).1 if29) ?_
          refine JL.go trivial (RX.movev (v := Value.bool _) rfl) ?_
          refine JL.go ⟨_, rfl, (by rw [(e9_ie g9 _).2]; exact hqk)⟩ (RX.movev (v := Value.string _) rfl) ?_
          refine JL.go ⟨_, rfl, (by rw [(e9_ie g9 _).2]; exact hqk)⟩ (RX.movev (v := Value.string _) rfl) ?_
          refine JL.go ⟨_, rfl, (by rw [(e9_ie g9 _).2]; exact hqk)⟩ (RX.str_eql rfl rfl) ?_
          refine JL.go trivial (RX.pick_t rfl (by rw [(e9_ie g9 _).2]; exact hqk)) ?_
          refine JL.go trivial (RX.movev (v := Value.bool _) rfl) ?_
          refine JL.go ⟨_, rfl, (decide_eq_true (by rw [textO_ok hqk, hqt]))⟩ (RX.movev (v := Value.int _ _) rfl) ?_
          refine JL.go ⟨_, rfl, (decide_eq_true (by rw [textO_ok hqk, hqt]))⟩ (RX.eq rfl rfl) ?_
          refine JL.go trivial (RX.pick_t rfl (decide_eq_true (by rw [textO_ok hqk, hqt]))) ?_
          refine JL.go trivial (RX.assignv (v := Value.bool _) rfl) ?_
          refine JL.nil ?_
          refine J.ret1 (v := Value.bool _) Tryd.func5 rfl rfl ?_
          first
          | exact ⟨_, rfl, rfl, H.drop.drop⟩
          | exact ⟨_, rfl, rfl, H.drop.drop.drop⟩
          | exact ⟨_, rfl, congrArg Value.bool (decide_eq_true (by rw [hl0]; rfl)), H.drop.drop.drop⟩
          | exact ⟨_, rfl, congrArg Value.bool (decide_eq_true (by rw [hc69.resolve_left (fun h => he6p (by rw [h]))])), H.drop.drop.drop⟩
theorem ListingCuts_b {w0 w : World} {F : List Seg} {E : Nat → Value} {Q : Nat → Addr} (H : Hp w0 w F) (hE : E69 F E Q) (hT : SlAt F (some ⟨19, 0, none⟩) tableC) (ht : GTab F) (hg : RdG F) {p : Prg} {pp : Option Addr} {pc : Nat} (hst : SlAt F pp (stepsV p.steps)) (hspot : ∀ a, pp = some a → a.spot = none ∨ pc = 0) (hpc : p.steps.length ≤ pc) (hp : p.Ok) (hn : p.steps.length ≤ 1048576) {at_ : Int} (ha : i64ok at_) : Ret Tryd.prog 6 [.agg (prgV p pp p.steps.length pc).toArray, .int .i64 at_] w fun v w' => v = .bool true ∧ Hp w0 w' F := by
  refine Calls.of_J (n := 98) Tryd.func6 rfl rfl rfl ?_
  refine J.seq ?_
  have g9 := hE.t9
  have g6 := hE.t6
  have htl := textO_len hp
  refine J.region ?_
  refine JL.does trivial (EX.box (v := Value.agg _) H rfl rfl) ?_
  rintro _ w ⟨b1, rfl, H⟩
  refine JL.go trivial (RX.assign) ?_
  refine JL.nil ?_
  refine J.seq ?_
  refine J.region ?_
  refine JL.does trivial (EX.call rfl cl7 rfl ((lives2_b H g9.cons hT.cons ht.cons))) ?_
  rintro _ w ⟨rfl, H⟩
  refine JL.go trivial (RX.assignv (v := Value.bool _) rfl) ?_
  refine JL.nil ?_
  refine J.seq ?_
  refine J.seq ?_
  refine J.region ?_
  refine JL.go trivial (RX.movev (v := Value.bool _) rfl) ?_
  refine JL.go trivial (RX.not rfl) ?_
  refine JL.nil ?_
  refine J.cond_f rfl rfl ?_
  refine J.skip ?_
  refine J.seq ?_
  refine J.region ?_
  refine JL.go trivial (RX.loadAgg H rfl (i := 0) (vs := prgV p pp p.steps.length pc) rfl rfl ag24) ?_
  refine JL.does trivial (EX.call rfl cl8 rfl ((text_b (p := p) H g9.cons hT.cons ht.cons hp hst.cons (by omega)))) ?_
  rintro _ w ⟨rfl, H⟩
  rw [textR_eq]
  refine JL.go trivial (RX.movev (v := Value.tuple _) rfl) ?_
  refine JL.go trivial (RX.extract (v := .string ⟨(textO p).toArray⟩) rfl rfl) ?_
  refine JL.go trivial (RX.extract (v := e9 E (textOk p)) rfl rfl) ?_
  refine JL.go trivial (RX.assignv (v := Value.string _) rfl) ?_
  refine JL.go trivial (RX.assignv (v := e9 E (textOk p)) rfl) ?_
  refine JL.nil ?_
  refine J.seq ?_
  refine J.seq ?_
  refine J.region ?_
  refine JL.go trivial (RX.movev (v := e9 E (textOk p)) rfl) ?_
  refine JL.go trivial (RX.ifnil_neq (v := e9 E (textOk p)) rfl rfl (e9_ie g9 (textOk p)).1 if29) ?_
  refine JL.go trivial (RX.movev (v := Value.bool _) rfl) ?_
  refine JL.splitS 24 rfl (fun hne => ?_) (fun hne => ?_)
  · skip
    first | have hnep := of_decide_eq_true hne | skip
    refine JL.no ⟨_, rfl, gno hne⟩ ?_
    refine JL.no ⟨_, rfl, gno hne⟩ ?_
    refine JL.no ⟨_, rfl, gno hne⟩ ?_
    refine JL.no ⟨_, rfl, gno hne⟩ ?_
    refine JL.go trivial (RX.pick_t rfl hne) ?_
    refine JL.nil ?_
    refine J.cond_t rfl rfl ?_
    refine J.seq ?_
    refine J.region ?_
    refine JL.go trivial (RX.assign) ?_
    refine JL.nil ?_
    refine J.ret1 (v := Value.bool _) Tryd.func6 rfl rfl ?_
    first
    | exact ⟨_, rfl, rfl, H.drop⟩
    | exact ⟨_, rfl, congrArg Value.bool (decide_eq_true hprg), H.drop.drop.drop⟩
    | exact ⟨_, rfl, congrArg Value.bool (decide_eq_true hprg), H.drop.drop.drop.drop⟩
  · skip
    first | have hnep := of_decide_eq_false hne | skip
    have hok2 : textOk p = true := by simpa [(e9_ie g9 (textOk p)).2] using hne
    refine JL.go ⟨_, rfl, hne⟩ (RX.fieldAddr rfl fo24_4 rfl) ?_
    refine JL.go ⟨_, rfl, hne⟩ (RX.load H rfl (i := 0) (v := .slice pp p.steps.length pc) rfl rfl one22) ?_
    refine JL.go ⟨_, rfl, hne⟩ (RX.len_slice rfl (by rw [sl22]; rfl) rfl) ?_
    refine JL.go ⟨_, rfl, hne⟩ (RX.gt rfl rfl) ?_
    refine JL.go trivial (RX.pick_f rfl hne) ?_
    refine JL.nil ?_
    refine J.cond_d rfl (fun hbig => ?_) (fun hbig => ?_)
    · skip
      refine J.seq ?_
      refine J.region ?_
      refine JL.go trivial (RX.assign) ?_
      refine JL.nil ?_
      refine J.ret1 (v := Value.bool _) Tryd.func6 rfl rfl ?_
      first
      | exact ⟨_, rfl, rfl, H.drop⟩
      | exact ⟨_, rfl, congrArg Value.bool (decide_eq_true hprg), H.drop.drop.drop⟩
      | exact ⟨_, rfl, congrArg Value.bool (decide_eq_true hprg), H.drop.drop.drop.drop⟩
    · skip
      refine J.skip ?_
      refine J.seq ?_
      obtain ⟨k, hk, hkl⟩ := cut_place at_ (textO p).length
      refine J.region ?_
      refine JL.go trivial (RX.movev (v := Value.int _ _) rfl) ?_
      refine JL.go trivial (RX.conv rfl (by rw [ki3]; rfl) ki45 (r := IntKind.u64.wrap at_) rfl) ?_
      refine JL.go trivial (RX.movev (v := Value.string _) rfl) ?_
      refine JL.go trivial (RX.len_string rfl ud9 (r := ((textO p).length : Int)) (by rw [b_size])) ?_
      refine JL.go trivial (RX.add rfl rfl (w_i64 (r := (((textO p).length + 1 : Nat) : Int)) (by omega) (by omega) (by omega))) ?_
      refine JL.go trivial (RX.conv rfl (by rw [ki3]; rfl) ki45 (w_u64 (r := (((textO p).length + 1 : Nat) : Int)) rfl (by omega) (by omega))) ?_
      refine JL.go trivial (RX.rem rfl rfl (by omega) (r := (k : Int)) hk) ?_
      refine JL.go trivial (RX.conv rfl (by rw [ki45]; rfl) ki3 (w_i64 (r := (k : Int)) rfl (by omega) (by omega))) ?_
      refine JL.go trivial (RX.assignv (v := Value.int _ _) rfl) ?_
      refine JL.nil ?_
      refine J.seq ?_
      refine J.region ?_
      refine JL.go trivial (RX.assign) ?_
      refine JL.nil ?_
      refine J.seq ?_
      refine J.seq ?_
      refine J.region ?_
      refine JL.go trivial (RX.assign) ?_
      refine JL.nil ?_
      refine J.block ?_
      refine J.loop (ι := Nat) (S := fun i => [(9, .int .i64 (cntT (textO p) i : Nat)), (10, .int .i64 (i : Nat))]) (Φ := fun i w => i ≤ k ∧ Hp w0 w ([(b1, cel (prgV p pp p.steps.length pc) 24)] :: F)) (μ := fun i => k - i) (C := [(2, _), (6, _), (8, _)]) 0 ⟨rfl, rfl, rfl, trivial⟩ ⟨rfl, rfl, trivial⟩ ?_ ?_
      · exact ⟨by omega, H⟩
      clear H
      rintro i ρ w ⟨hik, H⟩ IH
      refine J.seq ?_
      refine J.seq ?_
      refine J.region ?_
      refine JL.go trivial (RX.movev (v := Value.int _ _) rfl) ?_
      refine JL.go trivial (RX.movev (v := Value.int _ _) rfl) ?_
      refine JL.go trivial (RX.lt rfl rfl) ?_
      refine JL.nil ?_
      refine J.cond_d rfl (fun hlt => ?_) (fun hlt => ?_)
      · skip
        obtain ⟨ch, hch⟩ : ∃ ch, (textO p)[i]? = some ch := ⟨_, List.getElem?_eq_getElem (by omega)⟩
        have hcs := cnt_succ hch
        have hcl := cnt_le (textO p) (i + 1)
        refine J.skip ?_
        refine J.seq ?_
        refine J.block ?_
        refine J.seq ?_
        refine J.region ?_
        refine JL.go trivial (RX.movev (v := Value.string _) rfl) ?_
        refine JL.go trivial (RX.movev (v := Value.int _ _) rfl) ?_
        refine JL.go trivial (RX.indexStr rfl rfl ud9 (b := ch) (by omega) (by simpa using hch)) ?_
        refine JL.go trivial (RX.eq rfl rfl) ?_
        refine JL.nil ?_
        refine J.cond_d rfl (fun hc => ?_) (fun hc => ?_)
        · skip
          rw [if_pos hc] at hcs
          refine J.region ?_
          refine JL.go trivial (RX.movev (v := Value.int _ _) rfl) ?_
          refine JL.go trivial (RX.add rfl rfl (w_i64 (r := ((cntT (textO p) (i + 1) : Nat) : Int)) (by omega) (by omega) (by omega))) ?_
          refine JL.go trivial (RX.assignv (v := Value.int _ _) rfl) ?_
          refine JL.nil ?_
          refine J.inBlock ?_
          refine J.region ?_
          refine JL.go trivial (RX.movev (v := Value.int _ _) rfl) ?_
          refine JL.go trivial (RX.add rfl rfl (w_i64 (r := ((i + 1 : Nat) : Int)) (by omega) (by omega) (by omega))) ?_
          refine JL.go trivial (RX.assignv (v := Value.int _ _) rfl) ?_
          refine JL.nil ?_
          exact IH (i + 1) _ _ (by omega) ⟨rfl, rfl, rfl, trivial⟩ ⟨rfl, rfl, trivial⟩ ⟨by omega, H⟩
        · skip
          rw [if_neg hc] at hcs
          have hcs : cntT (textO p) (i + 1) = cntT (textO p) i := hcs
          rw [← hcs]
          refine J.skip ?_
          refine J.inBlock ?_
          refine J.region ?_
          refine JL.go trivial (RX.movev (v := Value.int _ _) rfl) ?_
          refine JL.go trivial (RX.add rfl rfl (w_i64 (r := ((i + 1 : Nat) : Int)) (by omega) (by omega) (by omega))) ?_
          refine JL.go trivial (RX.assignv (v := Value.int _ _) rfl) ?_
          refine JL.nil ?_
          exact IH (i + 1) _ _ (by omega) ⟨rfl, rfl, rfl, trivial⟩ ⟨rfl, rfl, trivial⟩ ⟨by omega, H⟩
      · skip
        have hik2 : i = k := by omega
        subst hik2
        have hrc := read_cut hp hok2 i
        rw [← textO_ok hok2] at hrc
        obtain ⟨j, hj1, hj, hrc⟩ := hrc
        have hj2 : cntT (textO p) i = j := hj
        rw [hj2]
        have htl2 : ((textO p).take i).length ≤ (textO p).length := by rw [List.length_take]; omega
        refine J.exit rfl ?_
        refine J.seq ?_
        refine J.region ?_
        refine JL.go trivial (RX.movev (v := Value.string _) rfl) ?_
        refine JL.go trivial (RX.movev (v := Value.int _ _) rfl) ?_
        refine JL.go trivial (RX.slStrH (a := textO p) (r := (textO p).take i) rfl rfl ud9 (by omega) (by omega) (by simp)) ?_
        refine JL.does trivial (EX.call rfl cl14 rfl ((Read_b H g6.cons g9.cons hT.cons ht.cons hg.cons (s := ((textO p).take i)) (by omega)))) ?_
        rintro _ w ⟨ps, h1, H⟩
        obtain ⟨qp, qpc, rfl, hops⟩ := h1
        refine JL.go trivial (RX.movev (v := Value.tuple _) rfl) ?_
        refine JL.go trivial (RX.extract (v := .agg (prgV (readS ((textO p).take i)).prg qp (readS ((textO p).take i)).prg.steps.length qpc).toArray) rfl rfl) ?_
        refine JL.go trivial (RX.extract (v := .int .i64 ((readS ((textO p).take i)).line : Nat)) rfl rfl) ?_
        refine JL.go trivial (RX.extract (v := errV E (readS ((textO p).take i)).code) rfl rfl) ?_
        refine JL.does trivial (EX.alloc H zr24 rfl) ?_
        rintro _ w ⟨b2, rfl, H⟩
        refine JL.does trivial (EX.storeAgg H rfl rfl (i := 0) (vs := prgV (readS ((textO p).take i)).prg qp (readS ((textO p).take i)).prg.steps.length qpc) (l' := prgV (readS ((textO p).take i)).prg qp (readS ((textO p).take i)).prg.steps.length qpc) rfl prgV_cell (by simp [prgV]) sz24 rfl rfl) ?_
        rintro _ w H
        refine JL.go trivial (RX.assignv (v := Value.int _ _) rfl) ?_
        refine JL.go trivial (RX.assignv (v := errV E (readS ((textO p).take i)).code) rfl) ?_
        refine JL.nil ?_
        have hln := readS_len ((textO p).take i)
        refine J.seq ?_
        refine J.seq ?_
        refine J.region ?_
        refine JL.go trivial (RX.movev (v := Value.int _ _) rfl) ?_
        refine JL.go trivial (RX.gt rfl rfl) ?_
        refine JL.go trivial (RX.movev (v := Value.bool _) rfl) ?_
        refine JL.splitS 59 rfl (fun hkp => ?_) (fun hkp => ?_)
        · skip
          first | have hkpp := of_decide_eq_true hkp | skip
          obtain ⟨ch, hch⟩ : ∃ ch, (textO p)[i - 1]? = some ch := ⟨_, List.getElem?_eq_getElem (by omega)⟩
          refine JL.go ⟨_, rfl, hkp⟩ (RX.movev (v := Value.string _) rfl) ?_
          refine JL.go ⟨_, rfl, hkp⟩ (RX.movev (v := Value.int _ _) rfl) ?_
          refine JL.go ⟨_, rfl, hkp⟩ (RX.sub rfl rfl (w_i64 (r := ((i - 1 : Nat) : Int)) (by omega) (by omega) (by omega))) ?_
          refine JL.go ⟨_, rfl, hkp⟩ (RX.indexStr rfl rfl ud9 (b := ch) (by omega) (by simpa using hch)) ?_
          refine JL.go ⟨_, rfl, hkp⟩ (RX.eq rfl rfl) ?_
          refine JL.go trivial (RX.pick_t rfl hkp) ?_
          refine JL.nil ?_
          refine J.cond_d rfl (fun hnl => ?_) (fun hnl => ?_)
          · skip
            have hnl2 : ((textO p).take i).getLast? = some 10 := (last_take (by omega)).2 ⟨by omega, by rw [hch, ten_is hnl]⟩
            obtain ⟨_, hj0, hrd⟩ : ((textO p).take i).getLast? = some 10 ∧ 0 < j ∧ readS ((textO p).take i) = .ok (firstN p (j - 1)) := hrc.resolve_right (fun h => h.1 hnl2)
            have hfl : (firstN p (j - 1)).steps.length = j - 1 := by simp only [firstN, List.length_take]; omega
            have hsl1 : SlAt F pp (stepsV (firstN p (j - 1)).steps) := by
              have h1 : stepsV p.steps = stepsV (firstN p (j - 1)).steps ++ stepsV (p.steps.drop (j - 1)) := by rw [← stepsV_app]; exact congrArg stepsV (List.take_append_drop _ _).symm
              rw [h1] at hst
              exact hst.pre
            have hprg : (readS ((textO p).take i)).prg = (firstN p (j - 1)) := by rw [hrd]; rfl
            have hcd : (readS ((textO p).take i)).code = 0 := by rw [hrd]; rfl
            have hlne : (readS ((textO p).take i)).line = 0 := by rw [hrd]; rfl
            refine J.seq ?_
            refine J.region ?_
            refine JL.go trivial (RX.loadAgg H rfl (i := 2) (vs := prgV p pp p.steps.length pc) rfl rfl ag24) ?_
            refine JL.does trivial (EX.alloc H zr24 rfl) ?_
            rintro _ w ⟨b3, rfl, H⟩
            refine JL.does trivial (EX.storeAgg H rfl rfl (i := 0) (vs := prgV p pp p.steps.length pc) (l' := prgV p pp p.steps.length pc) rfl prgV_cell (by simp [prgV]) sz24 rfl rfl) ?_
            rintro _ w H
            refine JL.nil ?_
            refine J.seq ?_
            refine J.region ?_
            refine JL.go trivial (RX.fieldAddr rfl fo24_4 rfl) ?_
            refine JL.go trivial (RX.load H rfl (i := 3) (v := .slice pp p.steps.length pc) rfl rfl one22) ?_
            refine JL.go trivial (RX.movev (v := Value.int _ _) rfl) ?_
            refine JL.go trivial (RX.sub rfl rfl (w_i64 (r := ((j - 1 : Nat) : Int)) (by omega) (by omega) (by omega))) ?_
            refine JL.go trivial (RX.slice_h2 rfl rfl sl22 hspot (by omega) (by omega) (r := j - 1) (by omega)) ?_
            refine JL.go trivial (RX.fieldAddr rfl fo24_4 rfl) ?_
            refine JL.does trivial (EX.store (v := Value.slice _ _ _) H rfl rfl (i := 0) (l' := prgV (firstN p (j - 1)) pp (j - 1) pc) rfl rfl (by simp [prgV]) sz22 rfl rfl) ?_
            rintro _ w H
            refine JL.nil ?_
            rw [← hfl] at H
            refine J.seq ?_
            refine J.region ?_
            refine JL.go trivial (RX.movev (v := errV E (readS ((textO p).take i)).code) rfl) ?_
            refine JL.go trivial (RX.ifnil_eql (v := errV E (readS ((textO p).take i)).code) rfl rfl (err69_ie hE (readS_code ((textO p).take i))).1 if29) ?_
            refine JL.go trivial (RX.movev (v := Value.bool _) rfl) ?_
            refine JL.go ⟨_, rfl, (by rw [(err69_ie hE (readS_code ((textO p).take i))).2, hcd]; rfl)⟩ (RX.movev (v := Value.int _ _) rfl) ?_
            refine JL.go ⟨_, rfl, (by rw [(err69_ie hE (readS_code ((textO p).take i))).2, hcd]; rfl)⟩ (RX.eq rfl rfl) ?_
            refine JL.go trivial (RX.pick_t rfl (by rw [(err69_ie hE (readS_code ((textO p).take i))).2, hcd]; rfl)) ?_
            refine JL.go trivial (RX.movev (v := Value.bool _) rfl) ?_
            refine JL.go ⟨_, rfl, (decide_eq_true (by rw [hlne]; rfl))⟩ (RX.loadAgg H rfl (i := 1) (vs := prgV (readS ((textO p).take i)).prg qp (readS ((textO p).take i)).prg.steps.length qpc) rfl rfl ag24) ?_
            refine JL.go ⟨_, rfl, (decide_eq_true (by rw [hlne]; rfl))⟩ (RX.loadAgg H rfl (i := 0) (vs := prgV (firstN p (j - 1)) pp (firstN p (j - 1)).steps.length pc) rfl rfl ag24) ?_
            refine JL.does ⟨_, rfl, (decide_eq_true (by rw [hlne]; rfl))⟩ (EX.call rfl cl11 rfl ((rSame_b H (SlAt.cons (SlAt.cons hops.slAt)) hsl1.cons.cons.cons.cons (by omega) (by omega)))) ?_
            rintro _ w ⟨rfl, H⟩
            refine JL.go trivial (RX.pick_t rfl (decide_eq_true (by rw [hlne]; rfl))) ?_
            refine JL.go trivial (RX.assignv (v := Value.bool _) rfl) ?_
            refine JL.nil ?_
            refine J.ret1 (v := Value.bool _) Tryd.func6 rfl rfl ?_
            first
            | exact ⟨_, rfl, rfl, H.drop⟩
            | exact ⟨_, rfl, congrArg Value.bool (decide_eq_true hprg), H.drop.drop.drop⟩
            | exact ⟨_, rfl, congrArg Value.bool (decide_eq_true hprg), H.drop.drop.drop.drop⟩
          · skip
            refine J.skip ?_
            refine J.seq ?_
            have hnl2 : ((textO p).take i).getLast? ≠ some 10 := fun h => by
              obtain ⟨h1, h2⟩ := (last_take (by omega)).1 h
              first
              | omega
              | (rw [hch] at h2; exact hnl (by rw [Option.some.inj h2]; rfl))
            have hrd : readS ((textO p).take i) = .err (j + 1) 6 := (hrc.resolve_left (fun h => hnl2 h.1)).2
            have hprg : (readS ((textO p).take i)).prg = prg0 := by rw [hrd]; rfl
            have hcd : (readS ((textO p).take i)).code = 6 := by rw [hrd]; rfl
            have hlne : (readS ((textO p).take i)).line = j + 1 := by rw [hrd]; rfl
            have hec : errV E (readS ((textO p).take i)).code = E 6 := by rw [hcd]; rfl
            refine J.region ?_
            refine JL.go trivial (RX.movev (v := errV E (readS ((textO p).take i)).code) rfl) ?_
            refine JL.go trivial (RX.loadG H rfl g6.at_.cons.cons.cons one29) ?_
            refine JL.go trivial (RX.err_eql (u := errV E (readS ((textO p).take i)).code) (v := E 6) H rfl rfl (by rw [hec]; exact hE.e6.cons.cons.cons) hE.e6.cons.cons.cons if29 ptE) ?_
            refine JL.go trivial (RX.movev (v := Value.bool _) rfl) ?_
            refine JL.go ⟨_, rfl, (decide_eq_true rfl)⟩ (RX.movev (v := Value.int _ _) rfl) ?_
            refine JL.go ⟨_, rfl, (decide_eq_true rfl)⟩ (RX.movev (v := Value.int _ _) rfl) ?_
            refine JL.go ⟨_, rfl, (decide_eq_true rfl)⟩ (RX.add rfl rfl (w_i64 (r := ((j + 1 : Nat) : Int)) (by omega) (by omega) (by omega))) ?_
            refine JL.go ⟨_, rfl, (decide_eq_true rfl)⟩ (RX.eq rfl rfl) ?_
            refine JL.go trivial (RX.pick_t rfl (decide_eq_true rfl)) ?_
            refine JL.go trivial (RX.movev (v := Value.bool _) rfl) ?_
            refine JL.go ⟨_, rfl, (decide_eq_true (by rw [hlne]))⟩ (RX.loadAgg H rfl (i := 0) (vs := prgV (readS ((textO p).take i)).prg qp (readS ((textO p).take i)).prg.steps.length qpc) rfl rfl ag24) ?_
            refine JL.go ⟨_, rfl, (decide_eq_true (by rw [hlne]))⟩ (RX.build (pv := []) (res := prgV prg0 none 0 0) rfl (by kernel_rfl)) ?_
            refine JL.does ⟨_, rfl, (decide_eq_true (by rw [hlne]))⟩ (EX.call rfl cl11 rfl ((rSame_b (q := prg0) (qp := none) (qc := 0) H (SlAt.cons hops.slAt) sl_prg0 (by omega) (by decide)))) ?_
            rintro _ w ⟨rfl, H⟩
            refine JL.go trivial (RX.pick_t rfl (decide_eq_true (by rw [hlne]))) ?_
            refine JL.go trivial (RX.assignv (v := Value.bool _) rfl) ?_
            refine JL.nil ?_
            refine J.ret1 (v := Value.bool _) Tryd.func6 rfl rfl ?_
            first
            | exact ⟨_, rfl, rfl, H.drop⟩
            | exact ⟨_, rfl, congrArg Value.bool (decide_eq_true hprg), H.drop.drop.drop⟩
            | exact ⟨_, rfl, congrArg Value.bool (decide_eq_true hprg), H.drop.drop.drop.drop⟩
        · skip
          first | have hkpp := of_decide_eq_false hkp | skip
          refine JL.no ⟨_, rfl, gno hkp⟩ ?_
          refine JL.no ⟨_, rfl, gno hkp⟩ ?_
          refine JL.no ⟨_, rfl, gno hkp⟩ ?_
          refine JL.no ⟨_, rfl, gno hkp⟩ ?_
          refine JL.no ⟨_, rfl, gno hkp⟩ ?_
          refine JL.go trivial (RX.pick_f rfl hkp) ?_
          refine JL.nil ?_
          refine J.cond_f rfl rfl ?_
          refine J.skip ?_
          refine J.seq ?_
          have hnl2 : ((textO p).take i).getLast? ≠ some 10 := fun h => by
            obtain ⟨h1, h2⟩ := (last_take (by omega)).1 h
            first
            | omega
            | (rw [hch] at h2; exact hnl (by rw [Option.some.inj h2]; rfl))
          have hrd : readS ((textO p).take i) = .err (j + 1) 6 := (hrc.resolve_left (fun h => hnl2 h.1)).2
          have hprg : (readS ((textO p).take i)).prg = prg0 := by rw [hrd]; rfl
          have hcd : (readS ((textO p).take i)).code = 6 := by rw [hrd]; rfl
          have hlne : (readS ((textO p).take i)).line = j + 1 := by rw [hrd]; rfl
          have hec : errV E (readS ((textO p).take i)).code = E 6 := by rw [hcd]; rfl
          refine J.region ?_
          refine JL.go trivial (RX.movev (v := errV E (readS ((textO p).take i)).code) rfl) ?_
          refine JL.go trivial (RX.loadG H rfl g6.at_.cons.cons.cons one29) ?_
          refine JL.go trivial (RX.err_eql (u := errV E (readS ((textO p).take i)).code) (v := E 6) H rfl rfl (by rw [hec]; exact hE.e6.cons.cons.cons) hE.e6.cons.cons.cons if29 ptE) ?_
          refine JL.go trivial (RX.movev (v := Value.bool _) rfl) ?_
          refine JL.go ⟨_, rfl, (decide_eq_true rfl)⟩ (RX.movev (v := Value.int _ _) rfl) ?_
          refine JL.go ⟨_, rfl, (decide_eq_true rfl)⟩ (RX.movev (v := Value.int _ _) rfl) ?_
          refine JL.go ⟨_, rfl, (decide_eq_true rfl)⟩ (RX.add rfl rfl (w_i64 (r := ((j + 1 : Nat) : Int)) (by omega) (by omega) (by omega))) ?_
          refine JL.go ⟨_, rfl, (decide_eq_true rfl)⟩ (RX.eq rfl rfl) ?_
          refine JL.go trivial (RX.pick_t rfl (decide_eq_true rfl)) ?_
          refine JL.go trivial (RX.movev (v := Value.bool _) rfl) ?_
          refine JL.go ⟨_, rfl, (decide_eq_true (by rw [hlne]))⟩ (RX.loadAgg H rfl (i := 0) (vs := prgV (readS ((textO p).take i)).prg qp (readS ((textO p).take i)).prg.steps.length qpc) rfl rfl ag24) ?_
          refine JL.go ⟨_, rfl, (decide_eq_true (by rw [hlne]))⟩ (RX.build (pv := []) (res := prgV prg0 none 0 0) rfl (by kernel_rfl)) ?_
          refine JL.does ⟨_, rfl, (decide_eq_true (by rw [hlne]))⟩ (EX.call rfl cl11 rfl ((rSame_b (q := prg0) (qp := none) (qc := 0) H (SlAt.cons hops.slAt) sl_prg0 (by omega) (by decide)))) ?_
          rintro _ w ⟨rfl, H⟩
          refine JL.go trivial (RX.pick_t rfl (decide_eq_true (by rw [hlne]))) ?_
          refine JL.go trivial (RX.assignv (v := Value.bool _) rfl) ?_
          refine JL.nil ?_
          refine J.ret1 (v := Value.bool _) Tryd.func6 rfl rfl ?_
          first
          | exact ⟨_, rfl, rfl, H.drop⟩
          | exact ⟨_, rfl, congrArg Value.bool (decide_eq_true hprg), H.drop.drop.drop⟩
          | exact ⟨_, rfl, congrArg Value.bool (decide_eq_true hprg), H.drop.drop.drop.drop⟩
end Go.Proofs.YtgkmmbdlclecnaaDoor
