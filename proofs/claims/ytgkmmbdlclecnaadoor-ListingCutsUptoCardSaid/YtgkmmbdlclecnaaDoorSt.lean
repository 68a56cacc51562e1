/- Package steps. -/
import Derived.Test.YtgkmmbdlclecnaaDoorPk
namespace Go.Proofs.YtgkmmbdlclecnaaDoor
open Go Go.Eng
set_option maxRecDepth 100000
set_option linter.unusedVariables false
set_option linter.unusedSimpArgs false
theorem ag26 : aggOf Tryd.prog 26 = some 7 := by kernel_rfl
theorem ag90 : aggOf Tryd.prog 90 = some 5 := by kernel_rfl
theorem ar91 : arrayOf Tryd.prog 91 = some (12, 90, 5) := by kernel_rfl
theorem cl24 : callable Tryd.prog 24 = true := by kernel_rfl
theorem cl38 : callable Tryd.prog 38 = true := by kernel_rfl
theorem cl53 : callable Tryd.prog 53 = true := by kernel_rfl
theorem fo26_0 : fieldOff Tryd.prog 26 0 = some 0 := by kernel_rfl
theorem fo26_1 : fieldOff Tryd.prog 26 1 = some 1 := by kernel_rfl
theorem fo26_2 : fieldOff Tryd.prog 26 2 = some 2 := by kernel_rfl
theorem fo26_3 : fieldOff Tryd.prog 26 3 = some 3 := by kernel_rfl
theorem fo26_4 : fieldOff Tryd.prog 26 4 = some 4 := by kernel_rfl
theorem fo26_5 : fieldOff Tryd.prog 26 5 = some 5 := by kernel_rfl
theorem fo26_6 : fieldOff Tryd.prog 26 6 = some 6 := by kernel_rfl
theorem fo90_0 : fieldOff Tryd.prog 90 0 = some 0 := by kernel_rfl
theorem fo90_1 : fieldOff Tryd.prog 90 1 = some 1 := by kernel_rfl
theorem fo90_2 : fieldOff Tryd.prog 90 2 = some 2 := by kernel_rfl
theorem fo90_3 : fieldOff Tryd.prog 90 3 = some 3 := by kernel_rfl
theorem fo90_4 : fieldOff Tryd.prog 90 4 = some 4 := by kernel_rfl
theorem one29 : oneOf Tryd.prog 29 = true := by kernel_rfl
theorem one3 : oneOf Tryd.prog 3 = true := by kernel_rfl
theorem one4 : oneOf Tryd.prog 4 = true := by kernel_rfl
theorem one9 : oneOf Tryd.prog 9 = true := by kernel_rfl
theorem sz90 : szOf Tryd.prog 90 = some 5 := by kernel_rfl
theorem zr90 : (Tryd.prog.info? 90).bind (·.zero) = some (.agg #[.string ⟨#[]⟩, .bool false, .bool false, .int .i64 0, .bool false]) := by kernel_rfl

structure Stp where
  op : Int
  dst : Int
  src : Int
  jump : Int
  count : Int
  n : Int
  k : Int
  deriving DecidableEq
def Stp.v (s : Stp) : List Value := [.int .i64 s.op, .int .i64 s.dst, .int .i64 s.src, .int .i64 s.jump, .int .i64 s.count, .int .i64 s.n, .int .i64 s.k]
def i64ok (x : Int) : Prop := -9223372036854775808 ≤ x ∧ x ≤ 9223372036854775807
instance {x : Int} : Decidable (i64ok x) := inferInstanceAs (Decidable (_ ∧ _))
structure Stp.Ok (s : Stp) : Prop where
  op : i64ok s.op
  dst : i64ok s.dst
  src : i64ok s.src
  jump : i64ok s.jump
  count : i64ok s.count
  n : i64ok s.n
  k : i64ok s.k
def stepsV (l : List Stp) : List Value := (l.map Stp.v).flatten
theorem stepsV_len (l : List Stp) : (stepsV l).length = l.length * 7 := by
  induction l with
  | nil => rfl
  | cons a l ih => simp only [stepsV, List.map_cons, List.flatten_cons, List.length_append, List.length_cons] at ih ⊢; rw [ih]; simp [Stp.v]; omega
theorem stepsV_cons (a : Stp) (l : List Stp) : stepsV (a :: l) = a.v ++ stepsV l := rfl
theorem stepsV_app (a b : List Stp) : stepsV (a ++ b) = stepsV a ++ stepsV b := by simp [stepsV]
theorem stepsV_cell (l : List Stp) : ∀ v ∈ stepsV l, isCell v = true := by
  intro v hv
  obtain ⟨q, hq, hv⟩ := List.mem_flatten.1 hv
  obtain ⟨s, _, rfl⟩ := List.mem_map.1 hq
  simp [Stp.v] at hv
  rcases hv with rfl | rfl | rfl | rfl | rfl | rfl | rfl <;> rfl
theorem stepsV_read : ∀ (l : List Stp) (i : Nat) (s : Stp), l[i]? = some s → readN (stepsV l) (i * 7) 7 = some s.v := by
  intro l
  induction l with
  | nil => intro i s h; simp at h
  | cons a l ih =>
    intro i s h
    cases i with
    | zero =>
      have : a = s := by simpa using h
      subst this
      simp [readN, stepsV_cons, Stp.v]
    | succ i =>
      have := ih i s (by simpa using h)
      unfold readN at this ⊢
      rw [stepsV_cons, show (i + 1) * 7 = a.v.length + i * 7 by simp [Stp.v]; omega, ← List.drop_drop, List.drop_left]
      exact this
theorem readN_get {l r : List Value} {o n i : Nat} (h : readN l o n = some r) (hi : i < n) : l[o + i]? = r[i]? := by
  unfold readN at h
  simp only at h
  split at h
  · rename_i hl
    have := Option.some.inj h
    subst this
    rw [List.getElem?_take, if_pos hi, List.getElem?_drop]
  · cases h
structure Row where
  nm : ByteArray
  src : Bool
  jump : Bool
  n : Int
  k : Bool
def Row.v (r : Row) : List Value := [.string r.nm, .bool r.src, .bool r.jump, .int .i64 r.n, .bool r.k]
def row0 : Row := ⟨⟨#[]⟩, false, false, 0, false⟩
def rows : List Row := [row0,
  ⟨⟨#[103, 97, 116, 104, 101, 114]⟩, true, true, 0, false⟩,
  ⟨⟨#[115, 99, 97, 116, 116, 101, 114]⟩, true, true, 0, false⟩,
  ⟨⟨#[122, 101, 114, 111]⟩, false, false, 0, false⟩,
  ⟨⟨#[116, 119, 105, 115, 116]⟩, false, false, 16384, true⟩,
  ⟨⟨#[102, 108, 121]⟩, false, true, 5, false⟩,
  ⟨⟨#[100, 105, 114, 101, 99, 116]⟩, true, true, 64, false⟩,
  ⟨⟨#[99, 104, 105, 114, 112]⟩, false, false, 16384, false⟩,
  ⟨⟨#[102, 105, 108, 108]⟩, false, false, 16384, false⟩,
  ⟨⟨#[116, 105, 109, 101, 115]⟩, true, false, 0, false⟩,
  ⟨⟨#[99, 111, 110, 106]⟩, false, false, 0, false⟩,
  ⟨⟨#[111, 118, 101, 114]⟩, false, false, 16384, false⟩]
def rowOf (op : Int) : Row := (rows[op.toNat]?).getD row0
def tableC : List Value := (rows.map Row.v).flatten
theorem op_cases {op : Int} (h0 : 1 ≤ op) (h1 : op ≤ 11) : op = 1 ∨ op = 2 ∨ op = 3 ∨ op = 4 ∨ op = 5 ∨ op = 6 ∨ op = 7 ∨ op = 8 ∨ op = 9 ∨ op = 10 ∨ op = 11 := by omega
theorem table_read {op : Int} (h0 : 0 ≤ op) (h1 : op ≤ 11) : readN tableC (op.toNat * 5) 5 = some (rowOf op).v := by
  have : op = 0 ∨ op = 1 ∨ op = 2 ∨ op = 3 ∨ op = 4 ∨ op = 5 ∨ op = 6 ∨ op = 7 ∨ op = 8 ∨ op = 9 ∨ op = 10 ∨ op = 11 := by omega
  rcases this with rfl | rfl | rfl | rfl | rfl | rfl | rfl | rfl | rfl | rfl | rfl | rfl <;> rfl
theorem row_cell (r : Row) : ∀ v ∈ r.v, isCell v = true := by
  intro v hv
  simp [Row.v] at hv
  rcases hv with rfl | rfl | rfl | rfl | rfl <;> rfl
def fromB (has : Bool) (x lo hi : Int) : Bool := if has then decide (lo ≤ x ∧ x ≤ hi) else decide (x = 0)
def opOk (op : Int) : Bool := decide (1 ≤ op ∧ op ≤ 11)
def tailB (s : Stp) : Bool :=
  if s.op = 5 then decide (s.count ≤ s.jump) else if s.op = 6 then decide (s.count ≤ s.n) else if s.op = 7 then decide (s.count ≤ s.n)
  else if s.op = 8 then decide (2 * s.n - 1 ≤ s.count ∧ s.count ≤ 16384) else true
def formB (s : Stp) : Bool :=
  opOk s.op && (fromB true s.dst 0 262143 && fromB true s.count 1 262144 && fromB (rowOf s.op).src s.src 0 262143 && fromB (rowOf s.op).jump s.jump 1 262144 &&
    fromB (decide (0 < (rowOf s.op).n)) s.n (if s.op = 5 then 2 else 1) (rowOf s.op).n && fromB (rowOf s.op).k s.k 0 (s.n - 1)) && tailB s
theorem row_n {op : Int} (h0 : 1 ≤ op) (h1 : op ≤ 11) : 0 ≤ (rowOf op).n ∧ (rowOf op).n ≤ 16384 := by
  rcases op_cases h0 h1 with rfl | rfl | rfl | rfl | rfl | rfl | rfl | rfl | rfl | rfl | rfl <;> decide
theorem fromB_n {h : Bool} {x lo hi : Int} (hb : fromB h x lo hi = true) (hlo : 0 ≤ lo) (hhi : hi ≤ 16384) : 0 ≤ x ∧ x ≤ 16384 := by
  unfold fromB at hb
  split at hb
  · have := of_decide_eq_true hb; omega
  · have := of_decide_eq_true hb; omega
def nameV (op : Int) : List Value := if opOk op then [.string (rowOf op).nm, .bool true] else [.string ⟨#[]⟩, .bool false]

theorem from_b {w0 w : World} {F : List Seg} (H : Hp w0 w F) {has : Bool} {x lo hi : Int} : Ret Tryd.prog 53 [.bool has, .int .i64 x, .int .i64 lo, .int .i64 hi] w fun v w' => v = .bool (fromB has x lo hi) ∧ Hp w0 w' F := by
  refine Calls.of_J (n := 21) Tryd.func53 rfl rfl rfl ?_
  refine J.seq ?_
  refine J.region ?_
  refine JL.go trivial (RX.assign) ?_
  refine JL.nil ?_
  refine J.seq ?_
  refine J.seq ?_
  refine J.region ?_
  refine JL.go trivial (RX.movev (v := Value.bool _) rfl) ?_
  refine JL.go trivial (RX.not rfl) ?_
  refine JL.nil ?_
  refine J.cond rfl (fun hh => ?_) (fun hh => ?_)
  · skip
    refine J.seq ?_
    refine J.region ?_
    refine JL.go trivial (RX.movev (v := Value.int _ _) rfl) ?_
    refine JL.go trivial (RX.eq rfl rfl) ?_
    refine JL.go trivial (RX.assignv (v := Value.bool _) rfl) ?_
    refine JL.nil ?_
    refine J.ret1 (v := Value.bool _) Tryd.func53 rfl rfl ?_
    exact ⟨_, rfl, by cases has <;> simp_all [fromB] <;> omega, H⟩
  · skip
    refine J.skip ?_
    refine J.seq ?_
    refine J.region ?_
    refine JL.go trivial (RX.movev (v := Value.int _ _) rfl) ?_
    refine JL.go trivial (RX.movev (v := Value.int _ _) rfl) ?_
    refine JL.go trivial (RX.ge rfl rfl) ?_
    refine JL.go trivial (RX.movev (v := Value.bool _) rfl) ?_
    refine JL.splitS 16 rfl (fun h2 => ?_) (fun h2 => ?_)
    · skip
      first | have h2p := of_decide_eq_true h2 | skip
      refine JL.go ⟨_, rfl, h2⟩ (RX.movev (v := Value.int _ _) rfl) ?_
      refine JL.go ⟨_, rfl, h2⟩ (RX.movev (v := Value.int _ _) rfl) ?_
      refine JL.go ⟨_, rfl, h2⟩ (RX.le rfl rfl) ?_
      refine JL.go trivial (RX.pick_t rfl h2) ?_
      refine JL.go trivial (RX.assignv (v := Value.bool _) rfl) ?_
      refine JL.nil ?_
      refine J.ret1 (v := Value.bool _) Tryd.func53 rfl rfl ?_
      exact ⟨_, rfl, by cases has <;> simp_all [fromB] <;> omega, H⟩
    · skip
      first | have h2p := of_decide_eq_false h2 | skip
      refine JL.no ⟨_, rfl, gno h2⟩ ?_
      refine JL.no ⟨_, rfl, gno h2⟩ ?_
      refine JL.no ⟨_, rfl, gno h2⟩ ?_
      refine JL.go trivial (RX.pick_f rfl h2) ?_
      refine JL.go trivial (RX.assignv (v := Value.bool _) rfl) ?_
      refine JL.nil ?_
      refine J.ret1 (v := Value.bool _) Tryd.func53 rfl rfl ?_
      exact ⟨_, rfl, by cases has <;> simp_all [fromB] <;> omega, H⟩
theorem name_b {w0 w : World} {F : List Seg} (H : Hp w0 w F) (hT : SlAt F (some ⟨19, 0, none⟩) tableC) {op : Int} : Ret Tryd.prog 24 [.int .i64 op] w fun v w' => v = .tuple (nameV op).toArray ∧ Hp w0 w' F := by
  refine Calls.of_J (n := 14) Tryd.func24 rfl rfl rfl ?_
  refine J.seq ?_
  refine J.region ?_
  refine JL.go trivial (RX.assign) ?_
  refine JL.go trivial (RX.assign) ?_
  refine JL.nil ?_
  refine J.seq ?_
  refine J.seq ?_
  refine J.region ?_
  refine JL.go trivial (RX.movev (v := Value.int _ _) rfl) ?_
  refine JL.go trivial (RX.lt rfl rfl) ?_
  refine JL.go trivial (RX.movev (v := Value.bool _) rfl) ?_
  refine JL.splitS 6 rfl (fun h1 => ?_) (fun h1 => ?_)
  · skip
    first | have h1p := of_decide_eq_true h1 | skip
    refine JL.no ⟨_, rfl, gno h1⟩ ?_
    refine JL.no ⟨_, rfl, gno h1⟩ ?_
    refine JL.go trivial (RX.pick_t rfl h1) ?_
    refine JL.nil ?_
    refine J.cond_t rfl rfl ?_
    refine J.seq ?_
    refine J.region ?_
    refine JL.go trivial (RX.assign) ?_
    refine JL.go trivial (RX.assign) ?_
    refine JL.nil ?_
    refine J.ret2 (v := Value.string _) (x := Value.bool _) Tryd.func24 rfl rfl rfl ?_
    have e : opOk op = false := decide_eq_false (by omega)
    exact ⟨_, rfl, by simp only [nameV, e]; rfl, H⟩
  · skip
    first | have h1p := of_decide_eq_false h1 | skip
    refine JL.go ⟨_, rfl, h1⟩ (RX.movev (v := Value.int _ _) rfl) ?_
    refine JL.go ⟨_, rfl, h1⟩ (RX.gt rfl rfl) ?_
    refine JL.go trivial (RX.pick_f rfl h1) ?_
    refine JL.nil ?_
    refine J.cond_d rfl (fun h9 => ?_) (fun h9 => ?_)
    · skip
      refine J.seq ?_
      refine J.region ?_
      refine JL.go trivial (RX.assign) ?_
      refine JL.go trivial (RX.assign) ?_
      refine JL.nil ?_
      refine J.ret2 (v := Value.string _) (x := Value.bool _) Tryd.func24 rfl rfl rfl ?_
      have e : opOk op = false := decide_eq_false (by omega)
      exact ⟨_, rfl, by simp only [nameV, e]; rfl, H⟩
    · skip
      refine J.skip ?_
      refine J.seq ?_
      refine J.region ?_
      have hrow := table_read (op := op) (by omega) (by omega)
      refine JL.go trivial (RX.movev (v := Value.int _ _) rfl) ?_
      refine JL.go trivial (RX.indexArr rfl rfl ar91 (by omega) (by omega) rfl) ?_
      refine JL.go trivial (RX.fieldAddr rfl fo90_0 rfl) ?_
      refine JL.go trivial (RX.loadS H hT rfl (j := op.toNat * 5) (by omega) ((readN_get (i := 0) hrow (by decide)).trans rfl) one9) ?_
      refine JL.go trivial (RX.assignv (v := Value.string _) rfl) ?_
      refine JL.go trivial (RX.assign) ?_
      refine JL.nil ?_
      refine J.ret2 (v := Value.string _) (x := Value.bool _) Tryd.func24 rfl rfl rfl ?_
      have e : opOk op = true := decide_eq_true (by omega)
      exact ⟨_, rfl, by simp only [nameV, e]; rfl, H⟩
theorem form_b {w0 w : World} {F : List Seg} (H : Hp w0 w F) (hT : SlAt F (some ⟨19, 0, none⟩) tableC) {s : Stp} (hs : s.Ok) : Ret Tryd.prog 38 [.agg s.v.toArray] w fun v w' => v = .bool (formB s) ∧ Hp w0 w' F := by
  refine Calls.of_J (n := 99) Tryd.func38 rfl rfl rfl ?_
  refine J.seq ?_
  refine J.region ?_
  refine JL.does trivial (EX.box (v := Value.agg _) H rfl rfl) ?_
  rintro _ w ⟨b1, rfl, H⟩
  refine JL.go trivial (RX.assign) ?_
  refine JL.nil ?_
  refine J.seq ?_
  refine J.seq ?_
  refine J.region ?_
  refine JL.go trivial (RX.fieldAddr rfl fo26_0 rfl) ?_
  refine JL.go trivial (by first | exact RX.load H rfl (i := 0) rfl rfl one3 | exact RX.load H rfl (i := 1) rfl rfl one3 | exact RX.load H rfl (i := 2) rfl rfl one3) ?_
  refine JL.does trivial (EX.call rfl cl24 rfl (name_b H hT.cons)) ?_
  rintro _ w ⟨rfl, H⟩
  generalize hnv : nameV s.op = nv
  refine JL.go trivial (RX.movev (v := Value.tuple _) rfl) ?_
  refine JL.go trivial (RX.extract (vs := nv) (v := .string (if opOk s.op then (rowOf s.op).nm else ⟨#[]⟩)) rfl (by subst hnv; unfold nameV; split <;> rfl)) ?_
  refine JL.go trivial (RX.extract (vs := nv) (v := .bool (opOk s.op)) rfl (by subst hnv; unfold nameV; split <;> simp_all)) ?_
  refine JL.go trivial (RX.assignv (v := Value.string _) rfl) ?_
  refine JL.go trivial (RX.assignv (v := Value.bool _) rfl) ?_
  refine JL.nil ?_
  refine J.seq ?_
  refine J.region ?_
  refine JL.go trivial (RX.movev (v := Value.bool _) rfl) ?_
  refine JL.go trivial (RX.not rfl) ?_
  refine JL.nil ?_
  refine J.cond rfl (fun hop => ?_) (fun hop => ?_)
  · skip
    refine J.seq ?_
    refine J.region ?_
    refine JL.go trivial (RX.assign) ?_
    refine JL.nil ?_
    refine J.ret1 (v := Value.bool _) Tryd.func38 rfl rfl ?_
    exact ⟨_, rfl, by simp_all [formB], by exact H.drop⟩
  · skip
    refine J.skip ?_
    refine J.seq ?_
    refine J.region ?_
    have hop2 : opOk s.op = true := by simpa using hop
    have hop3 := of_decide_eq_true hop2
    have hrow := table_read (op := s.op) (by omega) (by omega)
    have hrn := row_n hop3.1 hop3.2
    refine JL.go trivial (RX.fieldAddr rfl fo26_0 rfl) ?_
    refine JL.go trivial (by first | exact RX.load H rfl (i := 0) rfl rfl one3 | exact RX.load H rfl (i := 1) rfl rfl one3 | exact RX.load H rfl (i := 2) rfl rfl one3) ?_
    refine JL.go trivial (RX.indexArr rfl rfl ar91 (by omega) (by omega) rfl) ?_
    refine JL.go trivial (RX.loadAggS H hT.cons rfl (j := s.op.toNat * 5) (by omega) hrow ag90) ?_
    refine JL.does trivial (EX.alloc H zr90 rfl) ?_
    rintro _ w ⟨b2, rfl, H⟩
    refine JL.does trivial (EX.storeAgg H rfl rfl (i := 0) rfl (row_cell _) (by simp [Row.v]) sz90 rfl rfl) ?_
    rintro _ w H
    refine JL.nil ?_
    refine J.seq ?_
    refine J.region ?_
    refine JL.go trivial (RX.assign) ?_
    refine JL.nil ?_
    refine J.seq ?_
    refine J.seq ?_
    refine J.region ?_
    refine JL.go trivial (RX.fieldAddr rfl fo26_0 rfl) ?_
    refine JL.go trivial (by first | exact RX.load H rfl (i := 0) rfl rfl one3 | exact RX.load H rfl (i := 1) rfl rfl one3 | exact RX.load H rfl (i := 2) rfl rfl one3) ?_
    refine JL.go trivial (RX.eq rfl rfl) ?_
    refine JL.nil ?_
    refine J.cond_d rfl (fun h5 => ?_) (fun h5 => ?_)
    · skip
      refine J.region ?_
      refine JL.go trivial (RX.assign) ?_
      refine JL.nil ?_
      refine J.seq ?_
      refine J.region ?_
      refine JL.go trivial (RX.fieldAddr rfl fo26_1 rfl) ?_
      refine JL.go trivial (by first | exact RX.load H rfl (i := 0) rfl rfl one3 | exact RX.load H rfl (i := 1) rfl rfl one3 | exact RX.load H rfl (i := 2) rfl rfl one3) ?_
      refine JL.does trivial (EX.call rfl cl53 rfl ((from_b H))) ?_
      rintro _ w ⟨rfl, H⟩
      refine JL.go trivial (RX.movev (v := Value.bool _) rfl) ?_
      refine JL.splitS 26 rfl (fun h3 => ?_) (fun h3 => ?_)
      · skip
        first | have h3p := of_decide_eq_true h3 | skip
        refine JL.go ⟨_, rfl, h3⟩ (RX.fieldAddr rfl fo26_4 rfl) ?_
        refine JL.go ⟨_, rfl, h3⟩ (by first | exact RX.load H rfl (i := 0) rfl rfl one3 | exact RX.load H rfl (i := 1) rfl rfl one3 | exact RX.load H rfl (i := 2) rfl rfl one3) ?_
        refine JL.does ⟨_, rfl, h3⟩ (EX.call rfl cl53 rfl ((from_b H))) ?_
        rintro _ w ⟨rfl, H⟩
        refine JL.go trivial (RX.pick_t rfl h3) ?_
        refine JL.go trivial (RX.movev (v := Value.bool _) rfl) ?_
        refine JL.splitS 31 rfl (fun h4 => ?_) (fun h4 => ?_)
        · skip
          first | have h4p := of_decide_eq_true h4 | skip
          refine JL.go ⟨_, rfl, h4⟩ (RX.fieldAddr rfl fo90_1 rfl) ?_
          refine JL.go ⟨_, rfl, h4⟩ (by first | exact RX.load H rfl (i := 0) rfl rfl one4 | exact RX.load H rfl (i := 1) rfl rfl one4 | exact RX.load H rfl (i := 2) rfl rfl one4) ?_
          refine JL.go ⟨_, rfl, h4⟩ (RX.fieldAddr rfl fo26_2 rfl) ?_
          refine JL.go ⟨_, rfl, h4⟩ (by first | exact RX.load H rfl (i := 0) rfl rfl one3 | exact RX.load H rfl (i := 1) rfl rfl one3 | exact RX.load H rfl (i := 2) rfl rfl one3) ?_
          refine JL.does ⟨_, rfl, h4⟩ (EX.call rfl cl53 rfl ((from_b H))) ?_
          rintro _ w ⟨rfl, H⟩
          refine JL.go trivial (RX.pick_t rfl h4) ?_
          refine JL.go trivial (RX.movev (v := Value.bool _) rfl) ?_
          refine JL.splitS 38 rfl (fun h5 => ?_) (fun h5 => ?_)
          · skip
            first | have h5p := of_decide_eq_true h5 | skip
            refine JL.go ⟨_, rfl, h5⟩ (RX.fieldAddr rfl fo90_2 rfl) ?_
            refine JL.go ⟨_, rfl, h5⟩ (by first | exact RX.load H rfl (i := 0) rfl rfl one4 | exact RX.load H rfl (i := 1) rfl rfl one4 | exact RX.load H rfl (i := 2) rfl rfl one4) ?_
            refine JL.go ⟨_, rfl, h5⟩ (RX.fieldAddr rfl fo26_3 rfl) ?_
            refine JL.go ⟨_, rfl, h5⟩ (by first | exact RX.load H rfl (i := 0) rfl rfl one3 | exact RX.load H rfl (i := 1) rfl rfl one3 | exact RX.load H rfl (i := 2) rfl rfl one3) ?_
            refine JL.does ⟨_, rfl, h5⟩ (EX.call rfl cl53 rfl ((from_b H))) ?_
            rintro _ w ⟨rfl, H⟩
            refine JL.go trivial (RX.pick_t rfl h5) ?_
            refine JL.go trivial (RX.movev (v := Value.bool _) rfl) ?_
            refine JL.splitS 45 rfl (fun h6 => ?_) (fun h6 => ?_)
            · skip
              first | have h6p := of_decide_eq_true h6 | skip
              refine JL.go ⟨_, rfl, h6⟩ (RX.fieldAddr rfl fo90_3 rfl) ?_
              refine JL.go ⟨_, rfl, h6⟩ (by first | exact RX.load H rfl (i := 0) rfl rfl one3 | exact RX.load H rfl (i := 1) rfl rfl one3 | exact RX.load H rfl (i := 2) rfl rfl one3) ?_
              refine JL.go ⟨_, rfl, h6⟩ (RX.gt rfl rfl) ?_
              refine JL.go ⟨_, rfl, h6⟩ (RX.fieldAddr rfl fo26_5 rfl) ?_
              refine JL.go ⟨_, rfl, h6⟩ (by first | exact RX.load H rfl (i := 0) rfl rfl one3 | exact RX.load H rfl (i := 1) rfl rfl one3 | exact RX.load H rfl (i := 2) rfl rfl one3) ?_
              refine JL.go ⟨_, rfl, h6⟩ (RX.movev (v := Value.int _ _) rfl) ?_
              refine JL.go ⟨_, rfl, h6⟩ (RX.fieldAddr rfl fo90_3 rfl) ?_
              refine JL.go ⟨_, rfl, h6⟩ (by first | exact RX.load H rfl (i := 0) rfl rfl one3 | exact RX.load H rfl (i := 1) rfl rfl one3 | exact RX.load H rfl (i := 2) rfl rfl one3) ?_
              refine JL.does ⟨_, rfl, h6⟩ (EX.call rfl cl53 rfl ((from_b H))) ?_
              rintro _ w ⟨rfl, H⟩
              refine JL.go trivial (RX.pick_t rfl h6) ?_
              refine JL.go trivial (RX.movev (v := Value.bool _) rfl) ?_
              refine JL.splitS 56 rfl (fun hn => ?_) (fun hn => ?_)
              · skip
                first | have hnp := of_decide_eq_true hn | skip
                have hnb := fromB_n hn (by omega) (by omega)
                refine JL.go ⟨_, rfl, hn⟩ (RX.fieldAddr rfl fo90_4 rfl) ?_
                refine JL.go ⟨_, rfl, hn⟩ (by first | exact RX.load H rfl (i := 0) rfl rfl one4 | exact RX.load H rfl (i := 1) rfl rfl one4 | exact RX.load H rfl (i := 2) rfl rfl one4) ?_
                refine JL.go ⟨_, rfl, hn⟩ (RX.fieldAddr rfl fo26_6 rfl) ?_
                refine JL.go ⟨_, rfl, hn⟩ (by first | exact RX.load H rfl (i := 0) rfl rfl one3 | exact RX.load H rfl (i := 1) rfl rfl one3 | exact RX.load H rfl (i := 2) rfl rfl one3) ?_
                refine JL.go ⟨_, rfl, hn⟩ (RX.fieldAddr rfl fo26_5 rfl) ?_
                refine JL.go ⟨_, rfl, hn⟩ (by first | exact RX.load H rfl (i := 0) rfl rfl one3 | exact RX.load H rfl (i := 1) rfl rfl one3 | exact RX.load H rfl (i := 2) rfl rfl one3) ?_
                refine JL.go ⟨_, rfl, hn⟩ (RX.sub rfl rfl (w_i64 rfl (by omega) (by omega))) ?_
                refine JL.does ⟨_, rfl, hn⟩ (EX.call rfl cl53 rfl ((from_b H))) ?_
                rintro _ w ⟨rfl, H⟩
                refine JL.go trivial (RX.pick_t rfl hn) ?_
                refine JL.go trivial (RX.assignv (v := Value.bool _) rfl) ?_
                refine JL.nil ?_
                refine J.seq ?_
                refine J.seq ?_
                refine J.region ?_
                refine JL.go trivial (RX.movev (v := Value.bool _) rfl) ?_
                refine JL.go trivial (RX.not rfl) ?_
                refine JL.nil ?_
                refine J.cond rfl (fun hok => ?_) (fun hok => ?_)
                · skip
                  refine J.seq ?_
                  refine J.region ?_
                  refine JL.go trivial (RX.assign) ?_
                  refine JL.nil ?_
                  refine J.ret1 (v := Value.bool _) Tryd.func38 rfl rfl ?_
                  exact ⟨_, rfl, by (simp_all [formB, tailB]; try omega), H.drop.drop⟩
                · skip
                  refine J.skip ?_
                  refine J.seq ?_
                  refine J.seq ?_
                  refine J.region ?_
                  refine JL.go trivial (RX.fieldAddr rfl fo26_0 rfl) ?_
                  refine JL.go trivial (by first | exact RX.load H rfl (i := 0) rfl rfl one3 | exact RX.load H rfl (i := 1) rfl rfl one3 | exact RX.load H rfl (i := 2) rfl rfl one3) ?_
                  refine JL.nil ?_
                  refine J.block ?_
                  refine J.seq ?_
                  refine J.region ?_
                  refine JL.go trivial (RX.eq rfl rfl) ?_
                  refine JL.go trivial (RX.assignv (v := Value.bool _) rfl) ?_
                  refine JL.nil ?_
                  refine J.cond_d rfl (fun h5b => ?_) (fun h5b => ?_)
                  · skip
                    refine J.seq ?_
                    refine J.region ?_
                    refine JL.go trivial (RX.fieldAddr rfl fo26_4 rfl) ?_
                    refine JL.go trivial (by first | exact RX.load H rfl (i := 0) rfl rfl one3 | exact RX.load H rfl (i := 1) rfl rfl one3 | exact RX.load H rfl (i := 2) rfl rfl one3) ?_
                    refine JL.go trivial (RX.fieldAddr rfl fo26_3 rfl) ?_
                    refine JL.go trivial (by first | exact RX.load H rfl (i := 0) rfl rfl one3 | exact RX.load H rfl (i := 1) rfl rfl one3 | exact RX.load H rfl (i := 2) rfl rfl one3) ?_
                    refine JL.go trivial (RX.le rfl rfl) ?_
                    refine JL.go trivial (RX.assignv (v := Value.bool _) rfl) ?_
                    refine JL.nil ?_
                    refine J.ret1 (v := Value.bool _) Tryd.func38 rfl rfl ?_
                    exact ⟨_, rfl, by (simp_all [formB, tailB]; try omega), H.drop.drop⟩
                  · skip
                    refine J.seq ?_
                    refine J.seq ?_
                    refine J.region ?_
                    refine JL.go trivial (RX.eq rfl rfl) ?_
                    refine JL.go trivial (RX.assignv (v := Value.bool _) rfl) ?_
                    refine JL.nil ?_
                    refine J.cond_d rfl (fun h6 => ?_) (fun h6 => ?_)
                    · skip
                      refine J.skip ?_
                      refine J.cond_t rfl (decide_eq_true h6) ?_
                      refine J.seq ?_
                      refine J.region ?_
                      refine JL.go trivial (RX.fieldAddr rfl fo26_4 rfl) ?_
                      refine JL.go trivial (by first | exact RX.load H rfl (i := 0) rfl rfl one3 | exact RX.load H rfl (i := 1) rfl rfl one3 | exact RX.load H rfl (i := 2) rfl rfl one3) ?_
                      refine JL.go trivial (RX.fieldAddr rfl fo26_5 rfl) ?_
                      refine JL.go trivial (by first | exact RX.load H rfl (i := 0) rfl rfl one3 | exact RX.load H rfl (i := 1) rfl rfl one3 | exact RX.load H rfl (i := 2) rfl rfl one3) ?_
                      refine JL.go trivial (RX.le rfl rfl) ?_
                      refine JL.go trivial (RX.assignv (v := Value.bool _) rfl) ?_
                      refine JL.nil ?_
                      refine J.ret1 (v := Value.bool _) Tryd.func38 rfl rfl ?_
                      exact ⟨_, rfl, by (simp_all [formB, tailB]; try omega), H.drop.drop⟩
                    · skip
                      refine J.region ?_
                      refine JL.go trivial (RX.eq rfl rfl) ?_
                      refine JL.go trivial (RX.assignv (v := Value.bool _) rfl) ?_
                      refine JL.nil ?_
                      refine J.cond_d rfl (fun h6 => ?_) (fun h6 => ?_)
                      · skip
                        refine J.seq ?_
                        refine J.region ?_
                        refine JL.go trivial (RX.fieldAddr rfl fo26_4 rfl) ?_
                        refine JL.go trivial (by first | exact RX.load H rfl (i := 0) rfl rfl one3 | exact RX.load H rfl (i := 1) rfl rfl one3 | exact RX.load H rfl (i := 2) rfl rfl one3) ?_
                        refine JL.go trivial (RX.fieldAddr rfl fo26_5 rfl) ?_
                        refine JL.go trivial (by first | exact RX.load H rfl (i := 0) rfl rfl one3 | exact RX.load H rfl (i := 1) rfl rfl one3 | exact RX.load H rfl (i := 2) rfl rfl one3) ?_
                        refine JL.go trivial (RX.le rfl rfl) ?_
                        refine JL.go trivial (RX.assignv (v := Value.bool _) rfl) ?_
                        refine JL.nil ?_
                        refine J.ret1 (v := Value.bool _) Tryd.func38 rfl rfl ?_
                        exact ⟨_, rfl, by (simp_all [formB, tailB]; try omega), H.drop.drop⟩
                      · skip
                        refine J.seq ?_
                        refine J.region ?_
                        refine JL.go trivial (RX.eq rfl rfl) ?_
                        refine JL.go trivial (RX.assignv (v := Value.bool _) rfl) ?_
                        refine JL.nil ?_
                        refine J.cond_d rfl (fun h8 => ?_) (fun h8 => ?_)
                        · skip
                          refine J.seq ?_
                          refine J.region ?_
                          refine JL.go trivial (RX.fieldAddr rfl fo26_4 rfl) ?_
                          refine JL.go trivial (by first | exact RX.load H rfl (i := 0) rfl rfl one3 | exact RX.load H rfl (i := 1) rfl rfl one3 | exact RX.load H rfl (i := 2) rfl rfl one3) ?_
                          refine JL.go trivial (RX.fieldAddr rfl fo26_5 rfl) ?_
                          refine JL.go trivial (by first | exact RX.load H rfl (i := 0) rfl rfl one3 | exact RX.load H rfl (i := 1) rfl rfl one3 | exact RX.load H rfl (i := 2) rfl rfl one3) ?_
                          refine JL.go trivial (RX.mul rfl rfl (w_i64 rfl (by omega) (by omega))) ?_
                          refine JL.go trivial (RX.sub rfl rfl (w_i64 rfl (by omega) (by omega))) ?_
                          refine JL.go trivial (RX.ge rfl rfl) ?_
                          refine JL.go trivial (RX.movev (v := Value.bool _) rfl) ?_
                          refine JL.splitS 94 rfl (fun h13 => ?_) (fun h13 => ?_)
                          · skip
                            first | have h13p := of_decide_eq_true h13 | skip
                            refine JL.go ⟨_, rfl, h13⟩ (RX.fieldAddr rfl fo26_4 rfl) ?_
                            refine JL.go ⟨_, rfl, h13⟩ (by first | exact RX.load H rfl (i := 0) rfl rfl one3 | exact RX.load H rfl (i := 1) rfl rfl one3 | exact RX.load H rfl (i := 2) rfl rfl one3) ?_
                            refine JL.go ⟨_, rfl, h13⟩ (RX.le rfl rfl) ?_
                            refine JL.go trivial (RX.pick_t rfl h13) ?_
                            refine JL.go trivial (RX.assignv (v := Value.bool _) rfl) ?_
                            refine JL.nil ?_
                            refine J.ret1 (v := Value.bool _) Tryd.func38 rfl rfl ?_
                            exact ⟨_, rfl, by (simp_all [formB, tailB]; try omega), H.drop.drop⟩
                          · skip
                            first | have h13p := of_decide_eq_false h13 | skip
                            refine JL.no ⟨_, rfl, gno h13⟩ ?_
                            refine JL.no ⟨_, rfl, gno h13⟩ ?_
                            refine JL.no ⟨_, rfl, gno h13⟩ ?_
                            refine JL.go trivial (RX.pick_f rfl h13) ?_
                            refine JL.go trivial (RX.assignv (v := Value.bool _) rfl) ?_
                            refine JL.nil ?_
                            refine J.ret1 (v := Value.bool _) Tryd.func38 rfl rfl ?_
                            exact ⟨_, rfl, by (simp_all [formB, tailB]; try omega), H.drop.drop⟩
                        · skip
                          refine J.skip ?_
                          refine J.inBlock ?_
                          refine J.seq ?_
                          refine J.region ?_
                          refine JL.go trivial (RX.assign) ?_
                          refine JL.nil ?_
                          refine J.ret1 (v := Value.bool _) Tryd.func38 rfl rfl ?_
                          exact ⟨_, rfl, by (simp_all [formB, tailB]; try omega), H.drop.drop⟩
              · skip
                first | have hnp := of_decide_eq_false hn | skip
                refine JL.no ⟨_, rfl, gno hn⟩ ?_
                refine JL.no ⟨_, rfl, gno hn⟩ ?_
                refine JL.no ⟨_, rfl, gno hn⟩ ?_
                refine JL.no ⟨_, rfl, gno hn⟩ ?_
                refine JL.no ⟨_, rfl, gno hn⟩ ?_
                refine JL.no ⟨_, rfl, gno hn⟩ ?_
                refine JL.no ⟨_, rfl, gno hn⟩ ?_
                refine JL.no ⟨_, rfl, gno hn⟩ ?_
                refine JL.go trivial (RX.pick_f rfl hn) ?_
                refine JL.go trivial (RX.assignv (v := Value.bool _) rfl) ?_
                refine JL.nil ?_
                refine J.seq ?_
                refine J.seq ?_
                refine J.region ?_
                refine JL.go trivial (RX.movev (v := Value.bool _) rfl) ?_
                refine JL.go trivial (RX.not rfl) ?_
                refine JL.nil ?_
                refine J.cond_t rfl rfl ?_
                refine J.seq ?_
                refine J.region ?_
                refine JL.go trivial (RX.assign) ?_
                refine JL.nil ?_
                refine J.ret1 (v := Value.bool _) Tryd.func38 rfl rfl ?_
                exact ⟨_, rfl, by (simp_all [formB, tailB]; try omega), H.drop.drop⟩
            · skip
              first | have h6p := of_decide_eq_false h6 | skip
              refine JL.no ⟨_, rfl, gno h6⟩ ?_
              refine JL.no ⟨_, rfl, gno h6⟩ ?_
              refine JL.no ⟨_, rfl, gno h6⟩ ?_
              refine JL.no ⟨_, rfl, gno h6⟩ ?_
              refine JL.no ⟨_, rfl, gno h6⟩ ?_
              refine JL.no ⟨_, rfl, gno h6⟩ ?_
              refine JL.no ⟨_, rfl, gno h6⟩ ?_
              refine JL.no ⟨_, rfl, gno h6⟩ ?_
              refine JL.no ⟨_, rfl, gno h6⟩ ?_
              refine JL.go trivial (RX.pick_f rfl h6) ?_
              refine JL.go trivial (RX.movev (v := Value.bool _) rfl) ?_
              refine JL.no ⟨_, rfl, gno rfl⟩ ?_
              refine JL.no ⟨_, rfl, gno rfl⟩ ?_
              refine JL.no ⟨_, rfl, gno rfl⟩ ?_
              refine JL.no ⟨_, rfl, gno rfl⟩ ?_
              refine JL.no ⟨_, rfl, gno rfl⟩ ?_
              refine JL.no ⟨_, rfl, gno rfl⟩ ?_
              refine JL.no ⟨_, rfl, gno rfl⟩ ?_
              refine JL.no ⟨_, rfl, gno rfl⟩ ?_
              refine JL.go trivial (RX.pick_f rfl rfl) ?_
              refine JL.go trivial (RX.assignv (v := Value.bool _) rfl) ?_
              refine JL.nil ?_
              refine J.seq ?_
              refine J.seq ?_
              refine J.region ?_
              refine JL.go trivial (RX.movev (v := Value.bool _) rfl) ?_
              refine JL.go trivial (RX.not rfl) ?_
              refine JL.nil ?_
              refine J.cond_t rfl rfl ?_
              refine J.seq ?_
              refine J.region ?_
              refine JL.go trivial (RX.assign) ?_
              refine JL.nil ?_
              refine J.ret1 (v := Value.bool _) Tryd.func38 rfl rfl ?_
              exact ⟨_, rfl, by (simp_all [formB, tailB]; try omega), H.drop.drop⟩
          · skip
            first | have h5p := of_decide_eq_false h5 | skip
            refine JL.no ⟨_, rfl, gno h5⟩ ?_
            refine JL.no ⟨_, rfl, gno h5⟩ ?_
            refine JL.no ⟨_, rfl, gno h5⟩ ?_
            refine JL.no ⟨_, rfl, gno h5⟩ ?_
            refine JL.no ⟨_, rfl, gno h5⟩ ?_
            refine JL.go trivial (RX.pick_f rfl h5) ?_
            refine JL.go trivial (RX.movev (v := Value.bool _) rfl) ?_
            refine JL.no ⟨_, rfl, gno rfl⟩ ?_
            refine JL.no ⟨_, rfl, gno rfl⟩ ?_
            refine JL.no ⟨_, rfl, gno rfl⟩ ?_
            refine JL.no ⟨_, rfl, gno rfl⟩ ?_
            refine JL.no ⟨_, rfl, gno rfl⟩ ?_
            refine JL.no ⟨_, rfl, gno rfl⟩ ?_
            refine JL.no ⟨_, rfl, gno rfl⟩ ?_
            refine JL.no ⟨_, rfl, gno rfl⟩ ?_
            refine JL.no ⟨_, rfl, gno rfl⟩ ?_
            refine JL.go trivial (RX.pick_f rfl rfl) ?_
            refine JL.go trivial (RX.movev (v := Value.bool _) rfl) ?_
            refine JL.no ⟨_, rfl, gno rfl⟩ ?_
            refine JL.no ⟨_, rfl, gno rfl⟩ ?_
            refine JL.no ⟨_, rfl, gno rfl⟩ ?_
            refine JL.no ⟨_, rfl, gno rfl⟩ ?_
            refine JL.no ⟨_, rfl, gno rfl⟩ ?_
            refine JL.no ⟨_, rfl, gno rfl⟩ ?_
            refine JL.no ⟨_, rfl, gno rfl⟩ ?_
            refine JL.no ⟨_, rfl, gno rfl⟩ ?_
            refine JL.go trivial (RX.pick_f rfl rfl) ?_
            refine JL.go trivial (RX.assignv (v := Value.bool _) rfl) ?_
            refine JL.nil ?_
            refine J.seq ?_
            refine J.seq ?_
            refine J.region ?_
            refine JL.go trivial (RX.movev (v := Value.bool _) rfl) ?_
            refine JL.go trivial (RX.not rfl) ?_
            refine JL.nil ?_
            refine J.cond_t rfl rfl ?_
            refine J.seq ?_
            refine J.region ?_
            refine JL.go trivial (RX.assign) ?_
            refine JL.nil ?_
            refine J.ret1 (v := Value.bool _) Tryd.func38 rfl rfl ?_
            exact ⟨_, rfl, by (simp_all [formB, tailB]; try omega), H.drop.drop⟩
        · skip
          first | have h4p := of_decide_eq_false h4 | skip
          refine JL.no ⟨_, rfl, gno h4⟩ ?_
          refine JL.no ⟨_, rfl, gno h4⟩ ?_
          refine JL.no ⟨_, rfl, gno h4⟩ ?_
          refine JL.no ⟨_, rfl, gno h4⟩ ?_
          refine JL.no ⟨_, rfl, gno h4⟩ ?_
          refine JL.go trivial (RX.pick_f rfl h4) ?_
          refine JL.go trivial (RX.movev (v := Value.bool _) rfl) ?_
          refine JL.no ⟨_, rfl, gno rfl⟩ ?_
          refine JL.no ⟨_, rfl, gno rfl⟩ ?_
          refine JL.no ⟨_, rfl, gno rfl⟩ ?_
          refine JL.no ⟨_, rfl, gno rfl⟩ ?_
          refine JL.no ⟨_, rfl, gno rfl⟩ ?_
          refine JL.go trivial (RX.pick_f rfl rfl) ?_
          refine JL.go trivial (RX.movev (v := Value.bool _) rfl) ?_
          refine JL.no ⟨_, rfl, gno rfl⟩ ?_
          refine JL.no ⟨_, rfl, gno rfl⟩ ?_
          refine JL.no ⟨_, rfl, gno rfl⟩ ?_
          refine JL.no ⟨_, rfl, gno rfl⟩ ?_
          refine JL.no ⟨_, rfl, gno rfl⟩ ?_
          refine JL.no ⟨_, rfl, gno rfl⟩ ?_
          refine JL.no ⟨_, rfl, gno rfl⟩ ?_
          refine JL.no ⟨_, rfl, gno rfl⟩ ?_
          refine JL.no ⟨_, rfl, gno rfl⟩ ?_
          refine JL.go trivial (RX.pick_f rfl rfl) ?_
          refine JL.go trivial (RX.movev (v := Value.bool _) rfl) ?_
          refine JL.no ⟨_, rfl, gno rfl⟩ ?_
          refine JL.no ⟨_, rfl, gno rfl⟩ ?_
          refine JL.no ⟨_, rfl, gno rfl⟩ ?_
          refine JL.no ⟨_, rfl, gno rfl⟩ ?_
          refine JL.no ⟨_, rfl, gno rfl⟩ ?_
          refine JL.no ⟨_, rfl, gno rfl⟩ ?_
          refine JL.no ⟨_, rfl, gno rfl⟩ ?_
          refine JL.no ⟨_, rfl, gno rfl⟩ ?_
          refine JL.go trivial (RX.pick_f rfl rfl) ?_
          refine JL.go trivial (RX.assignv (v := Value.bool _) rfl) ?_
          refine JL.nil ?_
          refine J.seq ?_
          refine J.seq ?_
          refine J.region ?_
          refine JL.go trivial (RX.movev (v := Value.bool _) rfl) ?_
          refine JL.go trivial (RX.not rfl) ?_
          refine JL.nil ?_
          refine J.cond_t rfl rfl ?_
          refine J.seq ?_
          refine J.region ?_
          refine JL.go trivial (RX.assign) ?_
          refine JL.nil ?_
          refine J.ret1 (v := Value.bool _) Tryd.func38 rfl rfl ?_
          exact ⟨_, rfl, by (simp_all [formB, tailB]; try omega), H.drop.drop⟩
      · skip
        first | have h3p := of_decide_eq_false h3 | skip
        refine JL.no ⟨_, rfl, gno h3⟩ ?_
        refine JL.no ⟨_, rfl, gno h3⟩ ?_
        refine JL.no ⟨_, rfl, gno h3⟩ ?_
        refine JL.go trivial (RX.pick_f rfl h3) ?_
        refine JL.go trivial (RX.movev (v := Value.bool _) rfl) ?_
        refine JL.no ⟨_, rfl, gno rfl⟩ ?_
        refine JL.no ⟨_, rfl, gno rfl⟩ ?_
        refine JL.no ⟨_, rfl, gno rfl⟩ ?_
        refine JL.no ⟨_, rfl, gno rfl⟩ ?_
        refine JL.no ⟨_, rfl, gno rfl⟩ ?_
        refine JL.go trivial (RX.pick_f rfl rfl) ?_
        refine JL.go trivial (RX.movev (v := Value.bool _) rfl) ?_
        refine JL.no ⟨_, rfl, gno rfl⟩ ?_
        refine JL.no ⟨_, rfl, gno rfl⟩ ?_
        refine JL.no ⟨_, rfl, gno rfl⟩ ?_
        refine JL.no ⟨_, rfl, gno rfl⟩ ?_
        refine JL.no ⟨_, rfl, gno rfl⟩ ?_
        refine JL.go trivial (RX.pick_f rfl rfl) ?_
        refine JL.go trivial (RX.movev (v := Value.bool _) rfl) ?_
        refine JL.no ⟨_, rfl, gno rfl⟩ ?_
        refine JL.no ⟨_, rfl, gno rfl⟩ ?_
        refine JL.no ⟨_, rfl, gno rfl⟩ ?_
        refine JL.no ⟨_, rfl, gno rfl⟩ ?_
        refine JL.no ⟨_, rfl, gno rfl⟩ ?_
        refine JL.no ⟨_, rfl, gno rfl⟩ ?_
        refine JL.no ⟨_, rfl, gno rfl⟩ ?_
        refine JL.no ⟨_, rfl, gno rfl⟩ ?_
        refine JL.no ⟨_, rfl, gno rfl⟩ ?_
        refine JL.go trivial (RX.pick_f rfl rfl) ?_
        refine JL.go trivial (RX.movev (v := Value.bool _) rfl) ?_
        refine JL.no ⟨_, rfl, gno rfl⟩ ?_
        refine JL.no ⟨_, rfl, gno rfl⟩ ?_
        refine JL.no ⟨_, rfl, gno rfl⟩ ?_
        refine JL.no ⟨_, rfl, gno rfl⟩ ?_
        refine JL.no ⟨_, rfl, gno rfl⟩ ?_
        refine JL.no ⟨_, rfl, gno rfl⟩ ?_
        refine JL.no ⟨_, rfl, gno rfl⟩ ?_
        refine JL.no ⟨_, rfl, gno rfl⟩ ?_
        refine JL.go trivial (RX.pick_f rfl rfl) ?_
        refine JL.go trivial (RX.assignv (v := Value.bool _) rfl) ?_
        refine JL.nil ?_
        refine J.seq ?_
        refine J.seq ?_
        refine J.region ?_
        refine JL.go trivial (RX.movev (v := Value.bool _) rfl) ?_
        refine JL.go trivial (RX.not rfl) ?_
        refine JL.nil ?_
        refine J.cond_t rfl rfl ?_
        refine J.seq ?_
        refine J.region ?_
        refine JL.go trivial (RX.assign) ?_
        refine JL.nil ?_
        refine J.ret1 (v := Value.bool _) Tryd.func38 rfl rfl ?_
        exact ⟨_, rfl, by (simp_all [formB, tailB]; try omega), H.drop.drop⟩
    · skip
      refine J.skip ?_
      refine J.seq ?_
      refine J.region ?_
      refine JL.go trivial (RX.fieldAddr rfl fo26_1 rfl) ?_
      refine JL.go trivial (by first | exact RX.load H rfl (i := 0) rfl rfl one3 | exact RX.load H rfl (i := 1) rfl rfl one3 | exact RX.load H rfl (i := 2) rfl rfl one3) ?_
      refine JL.does trivial (EX.call rfl cl53 rfl ((from_b H))) ?_
      rintro _ w ⟨rfl, H⟩
      refine JL.go trivial (RX.movev (v := Value.bool _) rfl) ?_
      refine JL.splitS 26 rfl (fun h14 => ?_) (fun h14 => ?_)
      · skip
        first | have h14p := of_decide_eq_true h14 | skip
        refine JL.go ⟨_, rfl, h14⟩ (RX.fieldAddr rfl fo26_4 rfl) ?_
        refine JL.go ⟨_, rfl, h14⟩ (by first | exact RX.load H rfl (i := 0) rfl rfl one3 | exact RX.load H rfl (i := 1) rfl rfl one3 | exact RX.load H rfl (i := 2) rfl rfl one3) ?_
        refine JL.does ⟨_, rfl, h14⟩ (EX.call rfl cl53 rfl ((from_b H))) ?_
        rintro _ w ⟨rfl, H⟩
        refine JL.go trivial (RX.pick_t rfl h14) ?_
        refine JL.go trivial (RX.movev (v := Value.bool _) rfl) ?_
        refine JL.splitS 31 rfl (fun h15 => ?_) (fun h15 => ?_)
        · skip
          first | have h15p := of_decide_eq_true h15 | skip
          refine JL.go ⟨_, rfl, h15⟩ (RX.fieldAddr rfl fo90_1 rfl) ?_
          refine JL.go ⟨_, rfl, h15⟩ (by first | exact RX.load H rfl (i := 0) rfl rfl one4 | exact RX.load H rfl (i := 1) rfl rfl one4 | exact RX.load H rfl (i := 2) rfl rfl one4) ?_
          refine JL.go ⟨_, rfl, h15⟩ (RX.fieldAddr rfl fo26_2 rfl) ?_
          refine JL.go ⟨_, rfl, h15⟩ (by first | exact RX.load H rfl (i := 0) rfl rfl one3 | exact RX.load H rfl (i := 1) rfl rfl one3 | exact RX.load H rfl (i := 2) rfl rfl one3) ?_
          refine JL.does ⟨_, rfl, h15⟩ (EX.call rfl cl53 rfl ((from_b H))) ?_
          rintro _ w ⟨rfl, H⟩
          refine JL.go trivial (RX.pick_t rfl h15) ?_
          refine JL.go trivial (RX.movev (v := Value.bool _) rfl) ?_
          refine JL.splitS 38 rfl (fun h16 => ?_) (fun h16 => ?_)
          · skip
            first | have h16p := of_decide_eq_true h16 | skip
            refine JL.go ⟨_, rfl, h16⟩ (RX.fieldAddr rfl fo90_2 rfl) ?_
            refine JL.go ⟨_, rfl, h16⟩ (by first | exact RX.load H rfl (i := 0) rfl rfl one4 | exact RX.load H rfl (i := 1) rfl rfl one4 | exact RX.load H rfl (i := 2) rfl rfl one4) ?_
            refine JL.go ⟨_, rfl, h16⟩ (RX.fieldAddr rfl fo26_3 rfl) ?_
            refine JL.go ⟨_, rfl, h16⟩ (by first | exact RX.load H rfl (i := 0) rfl rfl one3 | exact RX.load H rfl (i := 1) rfl rfl one3 | exact RX.load H rfl (i := 2) rfl rfl one3) ?_
            refine JL.does ⟨_, rfl, h16⟩ (EX.call rfl cl53 rfl ((from_b H))) ?_
            rintro _ w ⟨rfl, H⟩
            refine JL.go trivial (RX.pick_t rfl h16) ?_
            refine JL.go trivial (RX.movev (v := Value.bool _) rfl) ?_
            refine JL.splitS 45 rfl (fun h17 => ?_) (fun h17 => ?_)
            · skip
              first | have h17p := of_decide_eq_true h17 | skip
              refine JL.go ⟨_, rfl, h17⟩ (RX.fieldAddr rfl fo90_3 rfl) ?_
              refine JL.go ⟨_, rfl, h17⟩ (by first | exact RX.load H rfl (i := 0) rfl rfl one3 | exact RX.load H rfl (i := 1) rfl rfl one3 | exact RX.load H rfl (i := 2) rfl rfl one3) ?_
              refine JL.go ⟨_, rfl, h17⟩ (RX.gt rfl rfl) ?_
              refine JL.go ⟨_, rfl, h17⟩ (RX.fieldAddr rfl fo26_5 rfl) ?_
              refine JL.go ⟨_, rfl, h17⟩ (by first | exact RX.load H rfl (i := 0) rfl rfl one3 | exact RX.load H rfl (i := 1) rfl rfl one3 | exact RX.load H rfl (i := 2) rfl rfl one3) ?_
              refine JL.go ⟨_, rfl, h17⟩ (RX.movev (v := Value.int _ _) rfl) ?_
              refine JL.go ⟨_, rfl, h17⟩ (RX.fieldAddr rfl fo90_3 rfl) ?_
              refine JL.go ⟨_, rfl, h17⟩ (by first | exact RX.load H rfl (i := 0) rfl rfl one3 | exact RX.load H rfl (i := 1) rfl rfl one3 | exact RX.load H rfl (i := 2) rfl rfl one3) ?_
              refine JL.does ⟨_, rfl, h17⟩ (EX.call rfl cl53 rfl ((from_b H))) ?_
              rintro _ w ⟨rfl, H⟩
              refine JL.go trivial (RX.pick_t rfl h17) ?_
              refine JL.go trivial (RX.movev (v := Value.bool _) rfl) ?_
              refine JL.splitS 56 rfl (fun hn => ?_) (fun hn => ?_)
              · skip
                first | have hnp := of_decide_eq_true hn | skip
                have hnb := fromB_n hn (by omega) (by omega)
                refine JL.go ⟨_, rfl, hn⟩ (RX.fieldAddr rfl fo90_4 rfl) ?_
                refine JL.go ⟨_, rfl, hn⟩ (by first | exact RX.load H rfl (i := 0) rfl rfl one4 | exact RX.load H rfl (i := 1) rfl rfl one4 | exact RX.load H rfl (i := 2) rfl rfl one4) ?_
                refine JL.go ⟨_, rfl, hn⟩ (RX.fieldAddr rfl fo26_6 rfl) ?_
                refine JL.go ⟨_, rfl, hn⟩ (by first | exact RX.load H rfl (i := 0) rfl rfl one3 | exact RX.load H rfl (i := 1) rfl rfl one3 | exact RX.load H rfl (i := 2) rfl rfl one3) ?_
                refine JL.go ⟨_, rfl, hn⟩ (RX.fieldAddr rfl fo26_5 rfl) ?_
                refine JL.go ⟨_, rfl, hn⟩ (by first | exact RX.load H rfl (i := 0) rfl rfl one3 | exact RX.load H rfl (i := 1) rfl rfl one3 | exact RX.load H rfl (i := 2) rfl rfl one3) ?_
                refine JL.go ⟨_, rfl, hn⟩ (RX.sub rfl rfl (w_i64 rfl (by omega) (by omega))) ?_
                refine JL.does ⟨_, rfl, hn⟩ (EX.call rfl cl53 rfl ((from_b H))) ?_
                rintro _ w ⟨rfl, H⟩
                refine JL.go trivial (RX.pick_t rfl hn) ?_
                refine JL.go trivial (RX.assignv (v := Value.bool _) rfl) ?_
                refine JL.nil ?_
                refine J.seq ?_
                refine J.seq ?_
                refine J.region ?_
                refine JL.go trivial (RX.movev (v := Value.bool _) rfl) ?_
                refine JL.go trivial (RX.not rfl) ?_
                refine JL.nil ?_
                refine J.cond rfl (fun hok => ?_) (fun hok => ?_)
                · skip
                  refine J.seq ?_
                  refine J.region ?_
                  refine JL.go trivial (RX.assign) ?_
                  refine JL.nil ?_
                  refine J.ret1 (v := Value.bool _) Tryd.func38 rfl rfl ?_
                  exact ⟨_, rfl, by (simp_all [formB, tailB]; try omega), H.drop.drop⟩
                · skip
                  refine J.skip ?_
                  refine J.seq ?_
                  refine J.seq ?_
                  refine J.region ?_
                  refine JL.go trivial (RX.fieldAddr rfl fo26_0 rfl) ?_
                  refine JL.go trivial (by first | exact RX.load H rfl (i := 0) rfl rfl one3 | exact RX.load H rfl (i := 1) rfl rfl one3 | exact RX.load H rfl (i := 2) rfl rfl one3) ?_
                  refine JL.nil ?_
                  refine J.block ?_
                  refine J.seq ?_
                  refine J.region ?_
                  refine JL.go trivial (RX.eq rfl rfl) ?_
                  refine JL.go trivial (RX.assignv (v := Value.bool _) rfl) ?_
                  refine JL.nil ?_
                  refine J.cond_d rfl (fun h5b => ?_) (fun h5b => ?_)
                  · skip
                    refine J.seq ?_
                    refine J.region ?_
                    refine JL.go trivial (RX.fieldAddr rfl fo26_4 rfl) ?_
                    refine JL.go trivial (by first | exact RX.load H rfl (i := 0) rfl rfl one3 | exact RX.load H rfl (i := 1) rfl rfl one3 | exact RX.load H rfl (i := 2) rfl rfl one3) ?_
                    refine JL.go trivial (RX.fieldAddr rfl fo26_3 rfl) ?_
                    refine JL.go trivial (by first | exact RX.load H rfl (i := 0) rfl rfl one3 | exact RX.load H rfl (i := 1) rfl rfl one3 | exact RX.load H rfl (i := 2) rfl rfl one3) ?_
                    refine JL.go trivial (RX.le rfl rfl) ?_
                    refine JL.go trivial (RX.assignv (v := Value.bool _) rfl) ?_
                    refine JL.nil ?_
                    refine J.ret1 (v := Value.bool _) Tryd.func38 rfl rfl ?_
                    exact ⟨_, rfl, by (simp_all [formB, tailB]; try omega), H.drop.drop⟩
                  · skip
                    refine J.seq ?_
                    refine J.seq ?_
                    refine J.region ?_
                    refine JL.go trivial (RX.eq rfl rfl) ?_
                    refine JL.go trivial (RX.assignv (v := Value.bool _) rfl) ?_
                    refine JL.nil ?_
                    refine J.cond_d rfl (fun h6 => ?_) (fun h6 => ?_)
                    · skip
                      refine J.skip ?_
                      refine J.cond_t rfl (decide_eq_true h6) ?_
                      refine J.seq ?_
                      refine J.region ?_
                      refine JL.go trivial (RX.fieldAddr rfl fo26_4 rfl) ?_
                      refine JL.go trivial (by first | exact RX.load H rfl (i := 0) rfl rfl one3 | exact RX.load H rfl (i := 1) rfl rfl one3 | exact RX.load H rfl (i := 2) rfl rfl one3) ?_
                      refine JL.go trivial (RX.fieldAddr rfl fo26_5 rfl) ?_
                      refine JL.go trivial (by first | exact RX.load H rfl (i := 0) rfl rfl one3 | exact RX.load H rfl (i := 1) rfl rfl one3 | exact RX.load H rfl (i := 2) rfl rfl one3) ?_
                      refine JL.go trivial (RX.le rfl rfl) ?_
                      refine JL.go trivial (RX.assignv (v := Value.bool _) rfl) ?_
                      refine JL.nil ?_
                      refine J.ret1 (v := Value.bool _) Tryd.func38 rfl rfl ?_
                      exact ⟨_, rfl, by (simp_all [formB, tailB]; try omega), H.drop.drop⟩
                    · skip
                      refine J.region ?_
                      refine JL.go trivial (RX.eq rfl rfl) ?_
                      refine JL.go trivial (RX.assignv (v := Value.bool _) rfl) ?_
                      refine JL.nil ?_
                      refine J.cond_d rfl (fun h6 => ?_) (fun h6 => ?_)
                      · skip
                        refine J.seq ?_
                        refine J.region ?_
                        refine JL.go trivial (RX.fieldAddr rfl fo26_4 rfl) ?_
                        refine JL.go trivial (by first | exact RX.load H rfl (i := 0) rfl rfl one3 | exact RX.load H rfl (i := 1) rfl rfl one3 | exact RX.load H rfl (i := 2) rfl rfl one3) ?_
                        refine JL.go trivial (RX.fieldAddr rfl fo26_5 rfl) ?_
                        refine JL.go trivial (by first | exact RX.load H rfl (i := 0) rfl rfl one3 | exact RX.load H rfl (i := 1) rfl rfl one3 | exact RX.load H rfl (i := 2) rfl rfl one3) ?_
                        refine JL.go trivial (RX.le rfl rfl) ?_
                        refine JL.go trivial (RX.assignv (v := Value.bool _) rfl) ?_
                        refine JL.nil ?_
                        refine J.ret1 (v := Value.bool _) Tryd.func38 rfl rfl ?_
                        exact ⟨_, rfl, by (simp_all [formB, tailB]; try omega), H.drop.drop⟩
                      · skip
                        refine J.seq ?_
                        refine J.region ?_
                        refine JL.go trivial (RX.eq rfl rfl) ?_
                        refine JL.go trivial (RX.assignv (v := Value.bool _) rfl) ?_
                        refine JL.nil ?_
                        refine J.cond_d rfl (fun h8 => ?_) (fun h8 => ?_)
                        · skip
                          refine J.seq ?_
                          refine J.region ?_
                          refine JL.go trivial (RX.fieldAddr rfl fo26_4 rfl) ?_
                          refine JL.go trivial (by first | exact RX.load H rfl (i := 0) rfl rfl one3 | exact RX.load H rfl (i := 1) rfl rfl one3 | exact RX.load H rfl (i := 2) rfl rfl one3) ?_
                          refine JL.go trivial (RX.fieldAddr rfl fo26_5 rfl) ?_
                          refine JL.go trivial (by first | exact RX.load H rfl (i := 0) rfl rfl one3 | exact RX.load H rfl (i := 1) rfl rfl one3 | exact RX.load H rfl (i := 2) rfl rfl one3) ?_
                          refine JL.go trivial (RX.mul rfl rfl (w_i64 rfl (by omega) (by omega))) ?_
                          refine JL.go trivial (RX.sub rfl rfl (w_i64 rfl (by omega) (by omega))) ?_
                          refine JL.go trivial (RX.ge rfl rfl) ?_
                          refine JL.go trivial (RX.movev (v := Value.bool _) rfl) ?_
                          refine JL.splitS 94 rfl (fun h24 => ?_) (fun h24 => ?_)
                          · skip
                            first | have h24p := of_decide_eq_true h24 | skip
                            refine JL.go ⟨_, rfl, h24⟩ (RX.fieldAddr rfl fo26_4 rfl) ?_
                            refine JL.go ⟨_, rfl, h24⟩ (by first | exact RX.load H rfl (i := 0) rfl rfl one3 | exact RX.load H rfl (i := 1) rfl rfl one3 | exact RX.load H rfl (i := 2) rfl rfl one3) ?_
                            refine JL.go ⟨_, rfl, h24⟩ (RX.le rfl rfl) ?_
                            refine JL.go trivial (RX.pick_t rfl h24) ?_
                            refine JL.go trivial (RX.assignv (v := Value.bool _) rfl) ?_
                            refine JL.nil ?_
                            refine J.ret1 (v := Value.bool _) Tryd.func38 rfl rfl ?_
                            exact ⟨_, rfl, by (simp_all [formB, tailB]; try omega), H.drop.drop⟩
                          · skip
                            first | have h24p := of_decide_eq_false h24 | skip
                            refine JL.no ⟨_, rfl, gno h24⟩ ?_
                            refine JL.no ⟨_, rfl, gno h24⟩ ?_
                            refine JL.no ⟨_, rfl, gno h24⟩ ?_
                            refine JL.go trivial (RX.pick_f rfl h24) ?_
                            refine JL.go trivial (RX.assignv (v := Value.bool _) rfl) ?_
                            refine JL.nil ?_
                            refine J.ret1 (v := Value.bool _) Tryd.func38 rfl rfl ?_
                            exact ⟨_, rfl, by (simp_all [formB, tailB]; try omega), H.drop.drop⟩
                        · skip
                          refine J.skip ?_
                          refine J.inBlock ?_
                          refine J.seq ?_
                          refine J.region ?_
                          refine JL.go trivial (RX.assign) ?_
                          refine JL.nil ?_
                          refine J.ret1 (v := Value.bool _) Tryd.func38 rfl rfl ?_
                          exact ⟨_, rfl, by (simp_all [formB, tailB]; try omega), H.drop.drop⟩
              · skip
                first | have hnp := of_decide_eq_false hn | skip
                refine JL.no ⟨_, rfl, gno hn⟩ ?_
                refine JL.no ⟨_, rfl, gno hn⟩ ?_
                refine JL.no ⟨_, rfl, gno hn⟩ ?_
                refine JL.no ⟨_, rfl, gno hn⟩ ?_
                refine JL.no ⟨_, rfl, gno hn⟩ ?_
                refine JL.no ⟨_, rfl, gno hn⟩ ?_
                refine JL.no ⟨_, rfl, gno hn⟩ ?_
                refine JL.no ⟨_, rfl, gno hn⟩ ?_
                refine JL.go trivial (RX.pick_f rfl hn) ?_
                refine JL.go trivial (RX.assignv (v := Value.bool _) rfl) ?_
                refine JL.nil ?_
                refine J.seq ?_
                refine J.seq ?_
                refine J.region ?_
                refine JL.go trivial (RX.movev (v := Value.bool _) rfl) ?_
                refine JL.go trivial (RX.not rfl) ?_
                refine JL.nil ?_
                refine J.cond_t rfl rfl ?_
                refine J.seq ?_
                refine J.region ?_
                refine JL.go trivial (RX.assign) ?_
                refine JL.nil ?_
                refine J.ret1 (v := Value.bool _) Tryd.func38 rfl rfl ?_
                exact ⟨_, rfl, by (simp_all [formB, tailB]; try omega), H.drop.drop⟩
            · skip
              first | have h17p := of_decide_eq_false h17 | skip
              refine JL.no ⟨_, rfl, gno h17⟩ ?_
              refine JL.no ⟨_, rfl, gno h17⟩ ?_
              refine JL.no ⟨_, rfl, gno h17⟩ ?_
              refine JL.no ⟨_, rfl, gno h17⟩ ?_
              refine JL.no ⟨_, rfl, gno h17⟩ ?_
              refine JL.no ⟨_, rfl, gno h17⟩ ?_
              refine JL.no ⟨_, rfl, gno h17⟩ ?_
              refine JL.no ⟨_, rfl, gno h17⟩ ?_
              refine JL.no ⟨_, rfl, gno h17⟩ ?_
              refine JL.go trivial (RX.pick_f rfl h17) ?_
              refine JL.go trivial (RX.movev (v := Value.bool _) rfl) ?_
              refine JL.no ⟨_, rfl, gno rfl⟩ ?_
              refine JL.no ⟨_, rfl, gno rfl⟩ ?_
              refine JL.no ⟨_, rfl, gno rfl⟩ ?_
              refine JL.no ⟨_, rfl, gno rfl⟩ ?_
              refine JL.no ⟨_, rfl, gno rfl⟩ ?_
              refine JL.no ⟨_, rfl, gno rfl⟩ ?_
              refine JL.no ⟨_, rfl, gno rfl⟩ ?_
              refine JL.no ⟨_, rfl, gno rfl⟩ ?_
              refine JL.go trivial (RX.pick_f rfl rfl) ?_
              refine JL.go trivial (RX.assignv (v := Value.bool _) rfl) ?_
              refine JL.nil ?_
              refine J.seq ?_
              refine J.seq ?_
              refine J.region ?_
              refine JL.go trivial (RX.movev (v := Value.bool _) rfl) ?_
              refine JL.go trivial (RX.not rfl) ?_
              refine JL.nil ?_
              refine J.cond_t rfl rfl ?_
              refine J.seq ?_
              refine J.region ?_
              refine JL.go trivial (RX.assign) ?_
              refine JL.nil ?_
              refine J.ret1 (v := Value.bool _) Tryd.func38 rfl rfl ?_
              exact ⟨_, rfl, by (simp_all [formB, tailB]; try omega), H.drop.drop⟩
          · skip
            first | have h16p := of_decide_eq_false h16 | skip
            refine JL.no ⟨_, rfl, gno h16⟩ ?_
            refine JL.no ⟨_, rfl, gno h16⟩ ?_
            refine JL.no ⟨_, rfl, gno h16⟩ ?_
            refine JL.no ⟨_, rfl, gno h16⟩ ?_
            refine JL.no ⟨_, rfl, gno h16⟩ ?_
            refine JL.go trivial (RX.pick_f rfl h16) ?_
            refine JL.go trivial (RX.movev (v := Value.bool _) rfl) ?_
            refine JL.no ⟨_, rfl, gno rfl⟩ ?_
            refine JL.no ⟨_, rfl, gno rfl⟩ ?_
            refine JL.no ⟨_, rfl, gno rfl⟩ ?_
            refine JL.no ⟨_, rfl, gno rfl⟩ ?_
            refine JL.no ⟨_, rfl, gno rfl⟩ ?_
            refine JL.no ⟨_, rfl, gno rfl⟩ ?_
            refine JL.no ⟨_, rfl, gno rfl⟩ ?_
            refine JL.no ⟨_, rfl, gno rfl⟩ ?_
            refine JL.no ⟨_, rfl, gno rfl⟩ ?_
            refine JL.go trivial (RX.pick_f rfl rfl) ?_
            refine JL.go trivial (RX.movev (v := Value.bool _) rfl) ?_
            refine JL.no ⟨_, rfl, gno rfl⟩ ?_
            refine JL.no ⟨_, rfl, gno rfl⟩ ?_
            refine JL.no ⟨_, rfl, gno rfl⟩ ?_
            refine JL.no ⟨_, rfl, gno rfl⟩ ?_
            refine JL.no ⟨_, rfl, gno rfl⟩ ?_
            refine JL.no ⟨_, rfl, gno rfl⟩ ?_
            refine JL.no ⟨_, rfl, gno rfl⟩ ?_
            refine JL.no ⟨_, rfl, gno rfl⟩ ?_
            refine JL.go trivial (RX.pick_f rfl rfl) ?_
            refine JL.go trivial (RX.assignv (v := Value.bool _) rfl) ?_
            refine JL.nil ?_
            refine J.seq ?_
            refine J.seq ?_
            refine J.region ?_
            refine JL.go trivial (RX.movev (v := Value.bool _) rfl) ?_
            refine JL.go trivial (RX.not rfl) ?_
            refine JL.nil ?_
            refine J.cond_t rfl rfl ?_
            refine J.seq ?_
            refine J.region ?_
            refine JL.go trivial (RX.assign) ?_
            refine JL.nil ?_
            refine J.ret1 (v := Value.bool _) Tryd.func38 rfl rfl ?_
            exact ⟨_, rfl, by (simp_all [formB, tailB]; try omega), H.drop.drop⟩
        · skip
          first | have h15p := of_decide_eq_false h15 | skip
          refine JL.no ⟨_, rfl, gno h15⟩ ?_
          refine JL.no ⟨_, rfl, gno h15⟩ ?_
          refine JL.no ⟨_, rfl, gno h15⟩ ?_
          refine JL.no ⟨_, rfl, gno h15⟩ ?_
          refine JL.no ⟨_, rfl, gno h15⟩ ?_
          refine JL.go trivial (RX.pick_f rfl h15) ?_
          refine JL.go trivial (RX.movev (v := Value.bool _) rfl) ?_
          refine JL.no ⟨_, rfl, gno rfl⟩ ?_
          refine JL.no ⟨_, rfl, gno rfl⟩ ?_
          refine JL.no ⟨_, rfl, gno rfl⟩ ?_
          refine JL.no ⟨_, rfl, gno rfl⟩ ?_
          refine JL.no ⟨_, rfl, gno rfl⟩ ?_
          refine JL.go trivial (RX.pick_f rfl rfl) ?_
          refine JL.go trivial (RX.movev (v := Value.bool _) rfl) ?_
          refine JL.no ⟨_, rfl, gno rfl⟩ ?_
          refine JL.no ⟨_, rfl, gno rfl⟩ ?_
          refine JL.no ⟨_, rfl, gno rfl⟩ ?_
          refine JL.no ⟨_, rfl, gno rfl⟩ ?_
          refine JL.no ⟨_, rfl, gno rfl⟩ ?_
          refine JL.no ⟨_, rfl, gno rfl⟩ ?_
          refine JL.no ⟨_, rfl, gno rfl⟩ ?_
          refine JL.no ⟨_, rfl, gno rfl⟩ ?_
          refine JL.no ⟨_, rfl, gno rfl⟩ ?_
          refine JL.go trivial (RX.pick_f rfl rfl) ?_
          refine JL.go trivial (RX.movev (v := Value.bool _) rfl) ?_
          refine JL.no ⟨_, rfl, gno rfl⟩ ?_
          refine JL.no ⟨_, rfl, gno rfl⟩ ?_
          refine JL.no ⟨_, rfl, gno rfl⟩ ?_
          refine JL.no ⟨_, rfl, gno rfl⟩ ?_
          refine JL.no ⟨_, rfl, gno rfl⟩ ?_
          refine JL.no ⟨_, rfl, gno rfl⟩ ?_
          refine JL.no ⟨_, rfl, gno rfl⟩ ?_
          refine JL.no ⟨_, rfl, gno rfl⟩ ?_
          refine JL.go trivial (RX.pick_f rfl rfl) ?_
          refine JL.go trivial (RX.assignv (v := Value.bool _) rfl) ?_
          refine JL.nil ?_
          refine J.seq ?_
          refine J.seq ?_
          refine J.region ?_
          refine JL.go trivial (RX.movev (v := Value.bool _) rfl) ?_
          refine JL.go trivial (RX.not rfl) ?_
          refine JL.nil ?_
          refine J.cond_t rfl rfl ?_
          refine J.seq ?_
          refine J.region ?_
          refine JL.go trivial (RX.assign) ?_
          refine JL.nil ?_
          refine J.ret1 (v := Value.bool _) Tryd.func38 rfl rfl ?_
          exact ⟨_, rfl, by (simp_all [formB, tailB]; try omega), H.drop.drop⟩
      · skip
        first | have h14p := of_decide_eq_false h14 | skip
        refine JL.no ⟨_, rfl, gno h14⟩ ?_
        refine JL.no ⟨_, rfl, gno h14⟩ ?_
        refine JL.no ⟨_, rfl, gno h14⟩ ?_
        refine JL.go trivial (RX.pick_f rfl h14) ?_
        refine JL.go trivial (RX.movev (v := Value.bool _) rfl) ?_
        refine JL.no ⟨_, rfl, gno rfl⟩ ?_
        refine JL.no ⟨_, rfl, gno rfl⟩ ?_
        refine JL.no ⟨_, rfl, gno rfl⟩ ?_
        refine JL.no ⟨_, rfl, gno rfl⟩ ?_
        refine JL.no ⟨_, rfl, gno rfl⟩ ?_
        refine JL.go trivial (RX.pick_f rfl rfl) ?_
        refine JL.go trivial (RX.movev (v := Value.bool _) rfl) ?_
        refine JL.no ⟨_, rfl, gno rfl⟩ ?_
        refine JL.no ⟨_, rfl, gno rfl⟩ ?_
        refine JL.no ⟨_, rfl, gno rfl⟩ ?_
        refine JL.no ⟨_, rfl, gno rfl⟩ ?_
        refine JL.no ⟨_, rfl, gno rfl⟩ ?_
        refine JL.go trivial (RX.pick_f rfl rfl) ?_
        refine JL.go trivial (RX.movev (v := Value.bool _) rfl) ?_
        refine JL.no ⟨_, rfl, gno rfl⟩ ?_
        refine JL.no ⟨_, rfl, gno rfl⟩ ?_
        refine JL.no ⟨_, rfl, gno rfl⟩ ?_
        refine JL.no ⟨_, rfl, gno rfl⟩ ?_
        refine JL.no ⟨_, rfl, gno rfl⟩ ?_
        refine JL.no ⟨_, rfl, gno rfl⟩ ?_
        refine JL.no ⟨_, rfl, gno rfl⟩ ?_
        refine JL.no ⟨_, rfl, gno rfl⟩ ?_
        refine JL.no ⟨_, rfl, gno rfl⟩ ?_
        refine JL.go trivial (RX.pick_f rfl rfl) ?_
        refine JL.go trivial (RX.movev (v := Value.bool _) rfl) ?_
        refine JL.no ⟨_, rfl, gno rfl⟩ ?_
        refine JL.no ⟨_, rfl, gno rfl⟩ ?_
        refine JL.no ⟨_, rfl, gno rfl⟩ ?_
        refine JL.no ⟨_, rfl, gno rfl⟩ ?_
        refine JL.no ⟨_, rfl, gno rfl⟩ ?_
        refine JL.no ⟨_, rfl, gno rfl⟩ ?_
        refine JL.no ⟨_, rfl, gno rfl⟩ ?_
        refine JL.no ⟨_, rfl, gno rfl⟩ ?_
        refine JL.go trivial (RX.pick_f rfl rfl) ?_
        refine JL.go trivial (RX.assignv (v := Value.bool _) rfl) ?_
        refine JL.nil ?_
        refine J.seq ?_
        refine J.seq ?_
        refine J.region ?_
        refine JL.go trivial (RX.movev (v := Value.bool _) rfl) ?_
        refine JL.go trivial (RX.not rfl) ?_
        refine JL.nil ?_
        refine J.cond_t rfl rfl ?_
        refine J.seq ?_
        refine J.region ?_
        refine JL.go trivial (RX.assign) ?_
        refine JL.nil ?_
        refine J.ret1 (v := Value.bool _) Tryd.func38 rfl rfl ?_
        exact ⟨_, rfl, by (simp_all [formB, tailB]; try omega), H.drop.drop⟩

structure Prg where
  len : Int
  cells : Int
  inn : Int
  out : Int
  steps : List Stp
  deriving DecidableEq
def Prg.heads (p : Prg) : List Int := [p.len, p.cells, p.inn, p.out]
def prgV (p : Prg) (pp : Option Addr) (n c : Nat) : List Value := [.int .i64 p.len, .int .i64 p.cells, .int .i64 p.inn, .int .i64 p.out, .slice pp n c]
def Prg.hd (p : Prg) (i : Nat) : Int := (p.heads[i]?).getD 0
theorem prgV_get {p : Prg} {pp : Option Addr} {n c i : Nat} (h : i < 4) : (prgV p pp n c)[i]? = some (.int .i64 (p.hd i)) := by
  have : i = 0 ∨ i = 1 ∨ i = 2 ∨ i = 3 := by omega
  rcases this with rfl | rfl | rfl | rfl <;> rfl
structure Prg.Ok (p : Prg) : Prop where
  len : i64ok p.len
  cells : i64ok p.cells
  inn : i64ok p.inn
  out : i64ok p.out
  steps : ∀ s ∈ p.steps, s.Ok
  num : p.steps.length ≤ 2199023255552
theorem Prg.Ok.hd {p : Prg} (h : p.Ok) {i : Nat} (hi : i < 4) : i64ok (p.hd i) := by
  have : i = 0 ∨ i = 1 ∨ i = 2 ∨ i = 3 := by omega
  rcases this with rfl | rfl | rfl | rfl
  · exact h.len
  · exact h.cells
  · exact h.inn
  · exact h.out
def ptrsV (b : Nat) (offs : List Nat) : List Value := offs.map fun o => .pointer (some ⟨b, o, none⟩)
theorem ptrsV_get {b : Nat} {offs : List Nat} {i o : Nat} (h : offs[i]? = some o) : (ptrsV b offs)[i]? = some (.pointer (some ⟨b, o, none⟩)) := by simp [ptrsV, h]
def fieldOffs (r : Row) : List Nat := [1] ++ (if r.src then [2] else []) ++ (if r.jump then [3] else []) ++ [4] ++ (if 0 < r.n then [5] else []) ++ (if r.k then [6] else [])
def Stp.at_ (s : Stp) (o : Nat) : Int := ([s.op, s.dst, s.src, s.jump, s.count, s.n, s.k][o]?).getD 0
theorem Stp.v_get {s : Stp} {o : Nat} (h : o < 7) : s.v[o]? = some (.int .i64 (s.at_ o)) := by
  have : o = 0 ∨ o = 1 ∨ o = 2 ∨ o = 3 ∨ o = 4 ∨ o = 5 ∨ o = 6 := by omega
  rcases this with rfl | rfl | rfl | rfl | rfl | rfl | rfl <;> rfl
theorem fieldOffs_lt {r : Row} {o : Nat} (h : o ∈ fieldOffs r) : 1 ≤ o ∧ o < 7 := by
  unfold fieldOffs at h
  simp only [List.mem_append, List.mem_singleton] at h
  rcases h with ((((h | h) | h) | h) | h) | h
  · omega
  · split at h <;> simp at h; omega
  · split at h <;> simp at h; omega
  · omega
  · split at h <;> simp at h; omega
  · split at h <;> simp at h; omega
theorem fieldOffs_len (r : Row) : (fieldOffs r).length ≤ 6 := by
  unfold fieldOffs
  simp only [List.length_append, List.length_cons, List.length_nil]
  repeat' split
  all_goals simp
theorem at_form {s : Stp} (h : formB s = true) {o : Nat} (ho : o ∈ fieldOffs (rowOf s.op)) : 0 ≤ s.at_ o ∧ s.at_ o ≤ 262144 := by
  simp only [formB, Bool.and_eq_true] at h
  obtain ⟨⟨hop, ⟨⟨⟨⟨hd, hc⟩, hs⟩, hj⟩, hn⟩, hk⟩, _⟩ := h
  have hop := of_decide_eq_true hop
  have hrn := row_n hop.1 hop.2
  have hnb := fromB_n hn (by split <;> omega) hrn.2
  unfold fieldOffs at ho
  simp only [List.mem_append, List.mem_singleton] at ho
  simp only [fromB, if_true, decide_eq_true_eq] at hd hc
  rcases ho with ((((rfl | ho) | ho) | rfl) | ho) | ho
  · show 0 ≤ s.dst ∧ s.dst ≤ 262144; omega
  · split at ho
    · rename_i e
      have : o = 2 := by simpa using ho
      subst this
      simp only [fromB, e, if_true, decide_eq_true_eq] at hs
      show 0 ≤ s.src ∧ s.src ≤ 262144; omega
    · simp at ho
  · split at ho
    · rename_i e
      have : o = 3 := by simpa using ho
      subst this
      simp only [fromB, e, if_true, decide_eq_true_eq] at hj
      show 0 ≤ s.jump ∧ s.jump ≤ 262144; omega
    · simp at ho
  · show 0 ≤ s.count ∧ s.count ≤ 262144; omega
  · split at ho
    · have : o = 5 := by simpa using ho
      subst this
      show 0 ≤ s.n ∧ s.n ≤ 262144; omega
    · simp at ho
  · split at ho
    · rename_i e
      have : o = 6 := by simpa using ho
      subst this
      simp only [fromB, e, if_true, decide_eq_true_eq] at hk
      show 0 ≤ s.k ∧ s.k ≤ 262144; omega
    · simp at ho
def vints (l : List Int) : List UInt8 := (l.map fun x => varint x.toNat).flatten
theorem vints_app (a b : List Int) : vints (a ++ b) = vints a ++ vints b := by simp [vints]
theorem vints_one (x : Int) : vints [x] = varint x.toNat := by simp [vints]
theorem vints_len {l : List Int} (h : ∀ x ∈ l, x ≤ 262144) : (vints l).length ≤ l.length * 10 := by
  induction l with
  | nil => simp [vints]
  | cons a l ih =>
    have h1 := ih (fun x hx => h x (List.mem_cons_of_mem _ hx))
    have h2 := varint_len10 (x := a.toNat) (by have := h a List.mem_cons_self; omega)
    simp only [vints, List.map_cons, List.flatten_cons, List.length_append, List.length_cons] at h1 ⊢
    omega
def stpNums (s : Stp) : List Int := s.op :: (fieldOffs (rowOf s.op)).map s.at_
def encStp (s : Stp) : List UInt8 := vints (stpNums s)
def encStps (l : List Stp) : List UInt8 := (l.map encStp).flatten
theorem encStps_app (a b : List Stp) : encStps (a ++ b) = encStps a ++ encStps b := by simp [encStps]
theorem encStp_len {s : Stp} (h : formB s = true) : (encStp s).length ≤ 70 := by
  have h1 : ∀ x ∈ stpNums s, x ≤ 262144 := by
    intro x hx
    rcases List.mem_cons.1 hx with rfl | hx
    · simp only [formB, Bool.and_eq_true] at h
      have := of_decide_eq_true h.1.1; omega
    · obtain ⟨o, ho, rfl⟩ := List.mem_map.1 hx
      exact (at_form h ho).2
  have h2 := vints_len h1
  have h3 := fieldOffs_len (rowOf s.op)
  unfold encStp
  simp only [stpNums, List.length_cons, List.length_map] at h2 ⊢
  omega
theorem encStps_len {l : List Stp} (h : ∀ s ∈ l, formB s = true) : (encStps l).length ≤ l.length * 70 := by
  induction l with
  | nil => simp [encStps]
  | cons a l ih =>
    have h1 := ih (fun x hx => h x (List.mem_cons_of_mem _ hx))
    have h2 := encStp_len (h a List.mem_cons_self)
    simp only [encStps, List.map_cons, List.flatten_cons, List.length_append, List.length_cons] at h1 ⊢
    omega
def hdOk (x : Int) : Bool := decide (0 ≤ x ∧ x ≤ 262144)
def encOk (p : Prg) : Bool := decide (p.steps.length ≤ 65536) && p.heads.all hdOk && p.steps.all formB
def encV (p : Prg) : List UInt8 := vints p.heads ++ varint p.steps.length ++ encStps p.steps
def encO (p : Prg) : List UInt8 := if encOk p then encV p else []
theorem take_succ_get {α : Type} {l : List α} {i : Nat} {a : α} (h : l[i]? = some a) : l.take (i + 1) = l.take i ++ [a] := by
  rw [List.take_add_one, h]; rfl

theorem Form_b {w0 w : World} {F : List Seg} {E : Nat → Value} (H : Hp w0 w F) (g9 : GErr F 0 (E 9)) (hT : SlAt F (some ⟨19, 0, none⟩) tableC) {s : Stp} (hs : s.Ok) : Ret Tryd.prog 23 [.agg s.v.toArray] w fun v w' => v = (if formB s then .nilIface else E 9) ∧ Hp w0 w' F := by
  refine Calls.of_J (n := 7) Tryd.func23 rfl rfl rfl ?_
  refine J.seq ?_
  refine J.region ?_
  refine JL.does trivial (EX.box (v := Value.agg _) H rfl rfl) ?_
  rintro _ w ⟨b1, rfl, H⟩
  refine JL.go trivial (RX.assign) ?_
  refine JL.nil ?_
  refine J.seq ?_
  refine J.seq ?_
  refine J.region ?_
  refine JL.go trivial (RX.loadAgg H rfl (i := 0) (vs := s.v) rfl rfl ag26) ?_
  refine JL.does trivial (EX.call rfl cl38 rfl ((form_b H hT.cons hs))) ?_
  rintro _ w ⟨rfl, H⟩
  refine JL.go trivial (RX.not rfl) ?_
  refine JL.nil ?_
  refine J.cond rfl (fun hf => ?_) (fun hf => ?_)
  · skip
    refine J.seq ?_
    refine J.region ?_
    refine JL.go trivial (RX.loadG H rfl g9.at_.cons one29) ?_
    refine JL.go trivial (RX.assign) ?_
    refine JL.nil ?_
    refine J.ret1 Tryd.func23 rfl rfl ?_
    have e : formB s = false := by simpa using hf
    rw [e]; exact ⟨_, rfl, rfl, H.drop⟩
  · skip
    refine J.skip ?_
    refine J.seq ?_
    refine J.region ?_
    refine JL.go trivial (RX.assign) ?_
    refine JL.nil ?_
    refine J.ret1 Tryd.func23 rfl rfl ?_
    have e : formB s = true := by simpa using hf
    rw [e]; exact ⟨_, rfl, rfl, H.drop⟩
theorem Op_b {w0 w : World} {F : List Seg} (H : Hp w0 w F) (hT : SlAt F (some ⟨19, 0, none⟩) tableC) {nm : ByteArray} : Ret Tryd.prog 49 [.string nm] w fun v w' => ((∃ i : Nat, 1 ≤ i ∧ i ≤ 11 ∧ (rowOf i).nm = nm ∧ v = .tuple #[.int .i64 i, .bool true]) ∨ ((∀ i : Nat, 1 ≤ i → i ≤ 11 → (rowOf i).nm ≠ nm) ∧ v = .tuple #[.int .i64 0, .bool false])) ∧ Hp w0 w' F := by
  refine Calls.of_J (n := 16) Tryd.func49 rfl rfl rfl ?_
  refine J.seq ?_
  refine J.region ?_
  refine JL.go trivial (RX.assign) ?_
  refine JL.go trivial (RX.assign) ?_
  refine JL.nil ?_
  refine J.seq ?_
  refine J.seq ?_
  refine J.region ?_
  refine JL.go trivial (RX.assign) ?_
  refine JL.nil ?_
  refine J.block ?_
  refine J.loop (ι := Nat) (S := fun k => [(4, .int .i64 (k : Nat))]) (Φ := fun k w => 1 ≤ k ∧ k ≤ 12 ∧ (∀ i : Nat, 1 ≤ i → i < k → (rowOf i).nm ≠ nm) ∧ Hp w0 w F) (μ := fun k => 12 - k) (C := [(0, _)]) 1 ⟨rfl, trivial⟩ ⟨rfl, trivial⟩ ?_ ?_
  · exact ⟨by omega, by omega, fun i h1 h2 => by omega, H⟩
  clear H
  rintro k ρ w ⟨hk1, hk2, hne, H⟩ IH
  refine J.seq ?_
  refine J.seq ?_
  refine J.region ?_
  refine JL.go trivial (RX.movev (v := Value.int _ _) rfl) ?_
  refine JL.go trivial (RX.le rfl rfl) ?_
  refine JL.nil ?_
  refine J.cond_d rfl (fun hle => ?_) (fun hle => ?_)
  · skip
    refine J.skip ?_
    refine J.seq ?_
    refine J.block ?_
    refine J.seq ?_
    refine J.region ?_
    have hrow := table_read (op := (k : Int)) (by omega) (by omega)
    refine JL.go trivial (RX.movev (v := Value.int _ _) rfl) ?_
    refine JL.go trivial (RX.indexArr rfl rfl ar91 (by omega) (by omega) rfl) ?_
    refine JL.go trivial (RX.fieldAddr rfl fo90_0 rfl) ?_
    refine JL.go trivial (RX.loadS H hT rfl (j := (k : Int).toNat * 5) (by omega) ((readN_get (i := 0) hrow (by decide)).trans rfl) one9) ?_
    refine JL.go trivial (RX.movev (v := Value.string _) rfl) ?_
    refine JL.go trivial (RX.str_eql rfl rfl) ?_
    refine JL.nil ?_
    refine J.cond_d rfl (fun heq => ?_) (fun heq => ?_)
    · skip
      refine J.seq ?_
      refine J.region ?_
      refine JL.go trivial (RX.movev (v := Value.int _ _) rfl) ?_
      refine JL.go trivial (RX.assignv (v := Value.int _ _) rfl) ?_
      refine JL.go trivial (RX.assign) ?_
      refine JL.nil ?_
      refine J.ret2 (v := Value.int _ _) (x := Value.bool _) Tryd.func49 rfl rfl rfl ?_
      exact ⟨_, rfl, .inl ⟨k, hk1, by omega, heq, rfl⟩, H⟩
    · skip
      refine J.skip ?_
      refine J.inBlock ?_
      refine J.region ?_
      refine JL.go trivial (RX.movev (v := Value.int _ _) rfl) ?_
      refine JL.go trivial (RX.add rfl rfl (w_i64 rfl (by omega) (by omega))) ?_
      refine JL.go trivial (RX.assignv (v := Value.int _ _) rfl) ?_
      refine JL.nil ?_
      exact IH (k + 1) _ _ (by omega) ⟨rfl, trivial⟩ ⟨rfl, trivial⟩ ⟨by omega, by omega, fun i h1 h2 => (by rcases Nat.lt_or_ge i k with h | h; exact hne i h1 h; have : i = k := (by omega); rw [this]; exact heq), H⟩
  · skip
    refine J.exit rfl ?_
    refine J.seq ?_
    refine J.region ?_
    refine JL.go trivial (RX.assign) ?_
    refine JL.go trivial (RX.assign) ?_
    refine JL.nil ?_
    refine J.ret2 (v := Value.int _ _) (x := Value.bool _) Tryd.func49 rfl rfl rfl ?_
    exact ⟨_, rfl, .inr ⟨fun i h1 h2 => hne i h1 (by omega), rfl⟩, H⟩
theorem heads_get {p : Prg} {i : Nat} (h : i < 4) : p.heads[i]? = some (p.hd i) := by
  have : i = 0 ∨ i = 1 ∨ i = 2 ∨ i = 3 := by omega
  rcases this with rfl | rfl | rfl | rfl <;> rfl
theorem heads_pre {p : Prg} {k : Nat} (h : k ≤ 4) (hall : ∀ i, i < k → hdOk (p.hd i) = true) : ∀ x ∈ p.heads.take k, x ≤ 262144 := by
  intro x hx
  obtain ⟨i, hxi⟩ := List.mem_iff_getElem?.1 hx
  rw [List.getElem?_take] at hxi
  split at hxi
  · rename_i hi
    rw [heads_get (by omega)] at hxi
    have h1 := of_decide_eq_true (hall i hi)
    have h2 := Option.some.inj hxi
    omega
  · cases hxi
theorem encOk_no_head {p : Prg} {i : Nat} (hi : i < 4) (h : hdOk (p.hd i) = false) : encOk p = false := by
  have : p.heads.all hdOk = false := List.all_eq_false.2 ⟨p.hd i, List.mem_of_getElem? (heads_get hi), by simp [h]⟩
  simp [encOk, this]
theorem encOk_no_step {p : Prg} {i : Nat} {s : Stp} (hi : p.steps[i]? = some s) (h : formB s = false) : encOk p = false := by
  have : p.steps.all formB = false := List.all_eq_false.2 ⟨s, List.mem_of_getElem? hi, by simp [h]⟩
  simp [encOk, this]
theorem encOk_no_len {p : Prg} (h : 65536 < p.steps.length) : encOk p = false := by simp [encOk]; omega
theorem encOk_yes {p : Prg} (h1 : p.steps.length ≤ 65536) (h2 : ∀ i, i < 4 → hdOk (p.hd i) = true) (h3 : ∀ s ∈ p.steps, formB s = true) : encOk p = true := by
  have e2 : p.heads.all hdOk = true := List.all_eq_true.2 fun x hx => by
    obtain ⟨i, hi⟩ := List.mem_iff_getElem?.1 hx
    have h4 : i < 4 := by have := (List.getElem?_eq_some_iff.1 hi).1; simpa [Prg.heads] using this
    rw [heads_get h4] at hi
    rw [← Option.some.inj hi]; exact h2 i h4
  have e3 : p.steps.all formB = true := List.all_eq_true.2 h3
  simp [encOk, e2, e3, h1]
def encP (p : Prg) (i : Nat) : List UInt8 := vints p.heads ++ varint p.steps.length ++ encStps (p.steps.take i)
def encF (s : Stp) (j : Nat) : List UInt8 := vints (s.op :: ((fieldOffs (rowOf s.op)).take j).map s.at_)
theorem encF_succ {s : Stp} {j o : Nat} (h : (fieldOffs (rowOf s.op))[j]? = some o) : encF s (j + 1) = encF s j ++ vints [s.at_ o] := by
  unfold encF
  rw [take_succ_get h, List.map_append, ← List.cons_append, vints_app]; rfl
theorem encF_full {s : Stp} : encF s (fieldOffs (rowOf s.op)).length = encStp s := by simp [encF, encStp, stpNums]
theorem encP_succ {p : Prg} {i : Nat} {s : Stp} (h : p.steps[i]? = some s) : encP p (i + 1) = encP p i ++ encStp s := by
  unfold encP
  rw [take_succ_get h, encStps_app]
  simp [encStps]
theorem stp_cell (s : Stp) : ∀ v ∈ s.v, isCell v = true := by
  intro v hv
  simp [Stp.v] at hv
  rcases hv with rfl | rfl | rfl | rfl | rfl | rfl | rfl <;> rfl
theorem form_op {s : Stp} (h : formB s = true) : 1 ≤ s.op ∧ s.op ≤ 11 := by
  simp only [formB, Bool.and_eq_true] at h
  exact of_decide_eq_true h.1.1
theorem encStp_pre {s : Stp} (h : formB s = true) (j : Nat) : (encF s j).length ≤ 70 := by
  have h1 : ∀ x ∈ s.op :: ((fieldOffs (rowOf s.op)).take j).map s.at_, x ≤ 262144 := by
    intro x hx
    rcases List.mem_cons.1 hx with rfl | hx
    · have := form_op h; omega
    · obtain ⟨o, ho, rfl⟩ := List.mem_map.1 hx
      exact (at_form h (List.mem_of_mem_take ho)).2
  have h2 := vints_len h1
  have h3 := fieldOffs_len (rowOf s.op)
  unfold encF
  simp only [List.length_cons, List.length_map, List.length_take] at h2
  omega
theorem encP_len {p : Prg} {i : Nat} {a b : Nat} (h1 : a ≤ b * 10) (hf : ∀ s ∈ p.steps.take i, formB s = true) : (encP p i).length ≤ (vints p.heads).length + (varint p.steps.length).length + (p.steps.take i).length * 70 := by
  unfold encP
  simp only [List.length_append]
  have := encStps_len hf
  omega
end Go.Proofs.YtgkmmbdlclecnaaDoor
