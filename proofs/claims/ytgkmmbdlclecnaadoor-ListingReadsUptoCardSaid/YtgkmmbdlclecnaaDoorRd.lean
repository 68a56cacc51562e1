/- Numbers and pieces: the library, the program, the reference. -/
import Derived.Test.YtgkmmbdlclecnaaDoorPn
import Derived.Test.YtgkmmbdlclecnaaDoorShelf2
import Derived.Lib.SplitLaws
namespace Go.Proofs.YtgkmmbdlclecnaaDoor
open Go Go.Eng
set_option maxRecDepth 100000
set_option linter.unusedVariables false
set_option linter.unusedSimpArgs false
theorem cl57 : callable Tryd.prog 57 = true := by kernel_rfl
theorem cl58 : callable Tryd.prog 58 = true := by kernel_rfl
section
open Go.Sort
theorem hp_grow {w0 w : World} {L : List Seg} (H : Hp w0 w L) (os : Array Obj) : Hp w0 (Sort.grow w os) L := by
  refine ⟨H.os, H.tape, H.output, ?_, H.nd, ?_⟩
  · rw [size_grow]; exact Nat.le_trans H.size (Nat.le_add_right _ _)
  · intro e he
    have h := H.mem e he
    have hl := (Array.getElem?_eq_some_iff.1 h).1
    simp only [Sort.grow]
    rw [Array.getElem?_append_left hl]; exact h
theorem hp_below {w0 w w' : World} {L : List Seg} (H : Hp w0 w L) (h : RowKit.Below w.heap.size w w') : Hp w0 w' L :=
  ⟨h.os.trans H.os, h.tape.trans H.tape, h.output.trans H.output, Nat.le_trans H.size h.size, H.nd, fun e he => by
    have hm := H.mem e he
    rw [h.block _ (Array.getElem?_eq_some_iff.1 hm).1]; exact hm⟩

structure RdG (F : List Seg) : Prop where
  ml : ∃ m, GVal F 20 (.int .i64 m)
  sy : ∃ v, GErr F 22 v
  ra : ∃ v, GErr F 23 v
theorem RdG.cons {F : List Seg} {s : Seg} (h : RdG F) : RdG (s :: F) := by
  obtain ⟨⟨m, h1⟩, ⟨v, h2⟩, ⟨u, h3⟩⟩ := h
  exact ⟨⟨m, h1.cons⟩, ⟨v, h2.cons⟩, ⟨u, h3.cons⟩⟩
theorem cell_of {w0 w : World} {F : List Seg} {g : Nat} {v : Value} (H : Hp w0 w F) (h : GVal F g v) : w.cell? ⟨g, 0, none⟩ = some v := by
  obtain ⟨C, T, fz, hm, hc⟩ := h
  have hb := H.mem _ hm
  simp only at hb
  simp [World.cell?, hb, hc]
theorem err_form {v : Value} (h : isErr v = true) : v = .nilIface ∨ ∃ te pe, v = .iface te pe := by
  cases v <;> first | exact .inl rfl | exact .inr ⟨_, _, rfl⟩ | cases h
theorem fmtInt_b {w0 w : World} {F : List Seg} (H : Hp w0 w F) (ht : GTab F) {n : Int} (hn : i64ok n) : Ret Tryd.prog 58 [.int .i64 n, .int .i64 10] w fun v w' => v = .string ⟨(Lib.itoa n).toArray⟩ ∧ Hp w0 w' F :=
  (Tryd.strconv_FormatInt_10 n hn.1 hn.2 w (ht.is H)).mono fun e w' h => by
    obtain ⟨rfl, k, os, rfl⟩ := h
    exact ⟨_, rfl, rfl, hp_grow (hp_drew H k) os⟩
theorem sat_ok (s : List UInt8) : i64ok (Lib.intSat 64 s) := by
  unfold Lib.intSat
  split <;> decide
theorem parse_ends (s : List UInt8) : (∃ v, Lib.parseIntB 64 s = .ok v) ∨ Lib.parseIntB 64 s = Lib.parseIntB 64 [] ∨ Lib.parseIntB 64 s = .range := by
  generalize Lib.parseIntB 64 s = r
  cases r
  · exact .inl ⟨_, rfl⟩
  · exact .inr (.inl rfl)
  · exact .inr (.inr rfl)
theorem parse_b {w0 w : World} {F : List Seg} (H : Hp w0 w F) (hg : RdG F) {s : List UInt8} (hs : s.length < 4294967281) :
    Ret Tryd.prog 57 [.string ⟨s.toArray⟩, .int .i64 10, .int .i64 64] w fun v w' => ∃ m e, v = .tuple #[.int .i64 m, e] ∧ i64ok m ∧ isErr e = true ∧ (∀ n, i64ok n → Lib.itoa n = s → m = n ∧ e = .nilIface) ∧ Hp w0 w' F := by
  obtain ⟨v1, h1⟩ := hg.sy
  obtain ⟨v2, h2⟩ := hg.ra
  have hsz : (⟨s.toArray⟩ : ByteArray).size = s.length := b_size s
  rcases parse_ends s with ⟨v, hp⟩ | hp | hp
  ·
    refine (Tryd.strconv_ParseInt_10_at64_ok ⟨s.toArray⟩ (by rw [hsz]; omega) v hp w).mono fun e w' h => ?_
    obtain ⟨rfl, h⟩ := h
    refine ⟨_, rfl, v, .nilIface, rfl, parse_ok hp, rfl, fun n hn hi => ⟨?_, rfl⟩, ?_⟩
    · rw [← hi, parse_itoa hn] at hp
      injection hp with hp
      exact hp.symm
    · rcases h with rfl | ⟨t, rfl⟩
      · exact H
      · refine ⟨H.os, H.tape, H.output, by rw [Lib.bytesWorld_size]; exact Nat.le_succ_of_le H.size, H.nd, fun e' he => ?_⟩
        rw [Lib.bytesWorld_at_old _ _ _ _ (H.lt he)]; exact H.mem e' he
  ·
    refine (Tryd.strconv_ParseInt_10_at64_syntax ⟨s.toArray⟩ (by rw [hsz]; omega) hp v1 w (cell_of H h1.at_) (err_form h1.ie)).mono fun e w' h => ?_
    obtain ⟨N, rfl, _, _, hb⟩ := h
    refine ⟨_, rfl, 0, _, rfl, by decide, rfl, fun n hn hi => ?_, hp_below H hb⟩
    rw [← hi, parse_itoa hn] at hp
    cases hp
  ·
    refine (Tryd.strconv_ParseInt_10_at64_range ⟨s.toArray⟩ (by rw [hsz]; omega) hp v2 w (cell_of H h2.at_) (err_form h2.ie)).mono fun e w' h => ?_
    obtain ⟨N, rfl, _, _, hb⟩ := h
    refine ⟨_, rfl, _, _, rfl, sat_ok s, rfl, fun n hn hi => ?_, hp_below H hb⟩
    rw [← hi, parse_itoa hn] at hp
    cases hp
theorem hp_alloc {w0 w : World} {F : List Seg} (H : Hp w0 w F) (o : Obj) : Hp w0 (w.alloc o) ([(w.heap.size, o)] :: F) := H.alloc o
theorem split_b {w0 w : World} {F : List Seg} (H : Hp w0 w F) (hg : RdG F) {s : List UInt8} (hs : s.length < 4294967281) :
    Ret Tryd.prog 47 [.string ⟨s.toArray⟩, .string ⟨#[32]⟩] w fun v w' => ∃ g, v = .slice (some ⟨g, 0, none⟩) (cutL 32 s).length (cutL 32 s).length ∧ Hp w0 w' ([(g, cel (strsV (cutL 32 s)) 9)] :: F) := by
  obtain ⟨m, h1⟩ := hg.ml
  refine (Tryd.strings_Split ⟨s.toArray⟩ ⟨[(32 : UInt8)].toArray⟩ m w (by rw [b_size]; exact hs) (cell_of H h1) (by decide)).mono fun e w' h => ?_
  obtain ⟨rfl, rfl⟩ := h
  have hc : Lib.countB ⟨s.toArray⟩ ⟨[(32 : UInt8)].toArray⟩ + 1 = (cutL 32 s).length := by
    rw [show Lib.countB ⟨s.toArray⟩ ⟨[(32 : UInt8)].toArray⟩ = s.count 32 from Lib.count_one 32 s]
    exact (cutL_len 32 s []).symm
  refine ⟨_, rfl, w.heap.size, by rw [hc], ?_⟩
  have h2 := H.alloc (.cells ((Lib.splitB ⟨[(32 : UInt8)].toArray⟩ 0 (Lib.countB ⟨s.toArray⟩ ⟨[(32 : UInt8)].toArray⟩) ⟨s.toArray⟩).map Value.string).toArray 9)
  rw [splitB_cut 32 s] at h2
  rw [splitB_cut 32 s]
  exact h2
theorem Cut_b {w0 w : World} {F : List Seg} (H : Hp w0 w F) (hg : RdG F) {s : List UInt8} (hs : s.length < 4294967281) :
    Ret Tryd.prog 27 [.string ⟨s.toArray⟩, .string ⟨#[10]⟩] w fun v w' => v = .tuple #[.string ⟨(Lib.cut s [10]).1.toArray⟩, .string ⟨(Lib.cut s [10]).2.1.toArray⟩, .bool (Lib.cut s [10]).2.2] ∧ Hp w0 w' F := by
  obtain ⟨m, h1⟩ := hg.ml
  refine (Tryd.strings_Cut ⟨s.toArray⟩ ⟨[(10 : UInt8)].toArray⟩ m w (by rw [b_size]; exact hs) (cell_of H h1)).mono fun e w' h => ?_
  obtain ⟨rfl, n, rfl⟩ := h
  exact ⟨_, rfl, rfl, hp_drew H n⟩
theorem ba_dec (a b : List UInt8) : decide ((⟨a.toArray⟩ : ByteArray) = ⟨b.toArray⟩) = decide (a = b) := by
  by_cases h : a = b
  · subst h; rw [decide_eq_true rfl, decide_eq_true rfl]
  · rw [decide_eq_false h, decide_eq_false (fun e => h (ba_inj e))]
/-- What reading a number answers. -/
def NumR (s : List UInt8) (v : Value) : Prop := ∃ m, v = .tuple #[.int .i64 m, .bool (numS s).isSome] ∧ i64ok m ∧ ∀ n, numS s = some n → m = n

def mns (s : List UInt8) : Bool := s.head? == some 45
theorem mns_cons (c : UInt8) (r : List UInt8) : mns (c :: r) = decide ((c.toNat : Int) = 45) := by
  unfold mns
  rw [Bool.eq_iff_iff]
  simp
  exact ⟨fun h => by rw [h]; rfl, fun h => UInt8.toNat_inj.1 (by simpa using Int.ofNat.inj h)⟩
theorem mns_nil {s : List UInt8} (h : s.length = 0) : mns s = false := by rw [List.eq_nil_of_length_eq_zero h]; rfl
def stt (s : List UInt8) : Nat := if mns s then 1 else 0
def valW (mi : Bool) (l : List UInt8) : Int := IntKind.i64.wrap (if mi then -(dval 0 l : Int) else (dval 0 l : Int))
theorem valW_nil (mi : Bool) : valW mi [] = 0 := by cases mi <;> rfl
theorem valW_ok (mi : Bool) (l : List UInt8) : i64ok (valW mi l) := by
  unfold valW i64ok
  rw [IntKind.wrap_i64]
  omega
theorem valW_neg (l : List UInt8) (c : UInt8) : IntKind.i64.wrap (IntKind.i64.wrap (10 * valW true l) - (dgv c : Int)) = valW true (l ++ [c]) := by
  simp only [valW, if_true, dval_app, dval_one]
  rw [IntKind.wrap_i64, IntKind.wrap_i64, IntKind.wrap_i64, IntKind.wrap_i64]
  push_cast
  omega
theorem valW_pos (l : List UInt8) (c : UInt8) : IntKind.i64.wrap (IntKind.i64.wrap (10 * valW false l) + (dgv c : Int)) = valW false (l ++ [c]) := by
  simp only [valW, Bool.false_eq_true, if_false, dval_app, dval_one]
  rw [IntKind.wrap_i64, IntKind.wrap_i64, IntKind.wrap_i64, IntKind.wrap_i64]
  push_cast
  omega
theorem itoa_shape {n : Int} {s : List UInt8} (h : Lib.itoa n = s) : (∀ c ∈ s.drop (stt s), 48 ≤ c.toNat ∧ c.toNat ≤ 57) ∧ (i64ok n → valW (mns s) (s.drop (stt s)) = n) := by
  subst h
  by_cases hn : n < 0
  · rw [itoa_neg' hn]
    have hm : mns (45 :: Lib.decDigits n.natAbs) = true := rfl
    have hs : stt (45 :: Lib.decDigits n.natAbs) = 1 := rfl
    rw [hs, hm]
    refine ⟨dec_digit _, fun hk => ?_⟩
    show valW true (Lib.decDigits n.natAbs) = n
    simp only [valW, if_true, dval_dec]
    rw [IntKind.wrap_i64]
    have := hk.1; have := hk.2
    omega
  · rw [itoa_pos' hn]
    obtain ⟨c, r, hcr⟩ := List.exists_cons_of_ne_nil (dec_ne n.toNat)
    have hc := dec_head hcr
    have hm : mns (Lib.decDigits n.toNat) = false := by
      rw [hcr]
      refine beq_eq_false_iff_ne.2 (fun e => ?_)
      have : c = 45 := by simpa using e
      subst this
      exact absurd hc.1 (by decide)
    have hs : stt (Lib.decDigits n.toNat) = 0 := by unfold stt; rw [hm]; rfl
    rw [hs, hm]
    refine ⟨dec_digit _, fun hk => ?_⟩
    show valW false (Lib.decDigits n.toNat) = n
    simp only [valW, Bool.false_eq_true, if_false, dval_dec]
    rw [IntKind.wrap_i64]
    have := hk.1; have := hk.2
    omega
theorem numS_bad {s : List UInt8} {i : Nat} {c : UInt8} (hi : stt s ≤ i) (hc : s[i]? = some c) (hb : ¬ (48 ≤ c.toNat ∧ c.toNat ≤ 57)) : numS s = none := by
  cases h : numS s with
  | none => rfl
  | some n =>
    obtain ⟨_, he⟩ := numS_some h
    refine absurd ((itoa_shape he).1 c ?_) hb
    refine List.mem_of_getElem? (i := i - stt s) ?_
    rw [List.getElem?_drop, show stt s + (i - stt s) = i by omega]
    exact hc
theorem seg_succ {s : List UInt8} {i st : Nat} {c : UInt8} (hs : st ≤ i) (hc : s[i]? = some c) : (s.take (i + 1)).drop st = (s.take i).drop st ++ [c] := by
  have hl := (List.getElem?_eq_some_iff.1 hc).1
  rw [take_succ_get hc, List.drop_append_of_le_length (by rw [List.length_take]; omega)]
theorem NumR.none {s : List UInt8} (h : numS s = Option.none) {m : Int} (hm : i64ok m) : NumR s (.tuple #[.int .i64 m, .bool false]) := ⟨m, by rw [h]; rfl, hm, fun n hn => by rw [h] at hn; cases hn⟩
theorem NumR.of {s : List UInt8} {m : Int} (hm : i64ok m) (hs : ∀ n, i64ok n → Lib.itoa n = s → m = n) : NumR s (.tuple #[.int .i64 m, .bool (decide ((⟨(Lib.itoa m).toArray⟩ : ByteArray) = ⟨s.toArray⟩))]) := by
  obtain ⟨h1, h2⟩ := numS_dec hm hs
  exact ⟨m, by rw [ba_dec, h1], hm, h2⟩
theorem cut_mid {b c : UInt8} {s : List UInt8} {i f : Nat} (hf : f ≤ i) (hc : s[i]? = some c) : cutA b ((s.take i).drop f) (s.drop i) = if c = b then (s.take i).drop f :: cutA b ((s.take (i + 1)).drop (i + 1)) (s.drop (i + 1)) else cutA b ((s.take (i + 1)).drop f) (s.drop (i + 1)) := by
  have hl := (List.getElem?_eq_some_iff.1 hc).1
  rw [List.drop_eq_getElem_cons hl, (List.getElem?_eq_some_iff.1 hc).2, cutA, seg_succ hf hc, List.drop_take_self]

theorem numb_b {w0 w : World} {F : List Seg} (H : Hp w0 w F) (ht : GTab F) (hg : RdG F) {s : List UInt8} (hs : s.length < 4294967281) : Ret Tryd.prog 48 [.string ⟨s.toArray⟩] w fun v w' => NumR s v ∧ Hp w0 w' F := by
  refine Calls.of_J (n := 20) Tryd.func48 rfl rfl rfl ?_
  refine J.seq ?_
  refine J.region ?_
  refine JL.go trivial (RX.assign) ?_
  refine JL.go trivial (RX.assign) ?_
  refine JL.nil ?_
  refine J.seq ?_
  refine J.region ?_
  refine JL.go trivial (RX.movev (v := Value.string _) rfl) ?_
  refine JL.does trivial (EX.call rfl cl57 rfl ((parse_b H hg hs))) ?_
  rintro _ w ⟨m, e, rfl, hm, hie, hpn, H⟩
  refine JL.go trivial (RX.movev (v := Value.tuple _) rfl) ?_
  refine JL.go trivial (RX.extract (v := .int .i64 m) rfl rfl) ?_
  refine JL.go trivial (RX.extract (v := e) rfl rfl) ?_
  refine JL.go trivial (RX.assignv (v := Value.int _ _) rfl) ?_
  refine JL.go trivial (RX.assignv (v := e) rfl) ?_
  refine JL.nil ?_
  refine J.seq ?_
  refine J.region ?_
  refine JL.go trivial (RX.movev (v := Value.int _ _) rfl) ?_
  refine JL.go trivial (RX.movev (v := e) rfl) ?_
  refine JL.go trivial (RX.ifnil_eql (v := e) rfl rfl hie if29) ?_
  refine JL.go trivial (RX.movev (v := Value.bool _) rfl) ?_
  refine JL.splitS 14 rfl (fun hnil => ?_) (fun hnil => ?_)
  · skip
    first | have hnilp := of_decide_eq_true hnil | skip
    refine JL.go ⟨_, rfl, hnil⟩ (RX.movev (v := Value.int _ _) rfl) ?_
    refine JL.does ⟨_, rfl, hnil⟩ (EX.call rfl cl58 rfl ((fmtInt_b H ht hm))) ?_
    rintro _ w ⟨rfl, H⟩
    refine JL.go ⟨_, rfl, hnil⟩ (RX.movev (v := Value.string _) rfl) ?_
    refine JL.go ⟨_, rfl, hnil⟩ (RX.str_eql rfl rfl) ?_
    refine JL.go trivial (RX.pick_t rfl hnil) ?_
    refine JL.go trivial (RX.assignv (v := Value.int _ _) rfl) ?_
    refine JL.go trivial (RX.assignv (v := Value.bool _) rfl) ?_
    refine JL.nil ?_
    refine J.ret2 (v := Value.int _ _) (x := Value.bool _) Tryd.func48 rfl rfl rfl ?_
    exact ⟨_, rfl, NumR.of hm (fun n h1 h2 => (hpn n h1 h2).1), H⟩
  · skip
    first | have hnilp := of_decide_eq_false hnil | skip
    refine JL.no ⟨_, rfl, gno hnil⟩ ?_
    refine JL.no ⟨_, rfl, gno hnil⟩ ?_
    refine JL.no ⟨_, rfl, gno hnil⟩ ?_
    refine JL.no ⟨_, rfl, gno hnil⟩ ?_
    refine JL.go trivial (RX.pick_f rfl hnil) ?_
    refine JL.go trivial (RX.assignv (v := Value.int _ _) rfl) ?_
    refine JL.go trivial (RX.assignv (v := Value.bool _) rfl) ?_
    refine JL.nil ?_
    refine J.ret2 (v := Value.int _ _) (x := Value.bool _) Tryd.func48 rfl rfl rfl ?_
    refine ⟨_, rfl, NumR.none ?_ hm, H⟩
    cases h : numS s with
    | none => rfl
    | some n =>
      obtain ⟨h1, h2⟩ := numS_some h
      rw [(hpn n h1 h2).2] at hnil
      cases hnil
theorem read_b {w0 w : World} {F : List Seg} (H : Hp w0 w F) {s : List UInt8} (hs : s.length < 4294967281) : Ret Tryd.prog 50 [.string ⟨s.toArray⟩] w fun v w' => NumR s v ∧ Hp w0 w' F := by
  refine Calls.of_J (n := 59) Tryd.func50 rfl rfl rfl ?_
  refine J.seq ?_
  refine J.region ?_
  refine JL.go trivial (RX.assign) ?_
  refine JL.go trivial (RX.assign) ?_
  refine JL.nil ?_
  refine J.seq ?_
  refine J.region ?_
  refine JL.go trivial (RX.assign) ?_
  refine JL.nil ?_
  refine J.seq ?_
  refine J.join (ι := Bool) (fun q => [(5, .bool q)]) (fun q w => q = mns s ∧ Hp w0 w F) [(0, _), (4, _)] ⟨rfl, rfl, trivial⟩ ?_ ?_
  rotate_left
  · skip
    intro k2 hk2
    refine J.region ?_
    refine JL.go trivial (RX.movev (v := Value.string _) rfl) ?_
    refine JL.go trivial (RX.len_string rfl ud9 (r := (s.length : Int)) (by rw [b_size])) ?_
    refine JL.go trivial (RX.gt rfl rfl) ?_
    refine JL.go trivial (RX.movev (v := Value.bool _) rfl) ?_
    refine JL.splitS 10 rfl (fun hpos => ?_) (fun hpos => ?_)
    · skip
      first | have hposp := of_decide_eq_true hpos | skip
      obtain ⟨c0, r0, hs0⟩ : ∃ c0 r0, s = c0 :: r0 := List.exists_cons_of_ne_nil (fun e => by rw [e] at hposp; exact absurd hposp (by decide))
      refine JL.go ⟨_, rfl, hpos⟩ (RX.movev (v := Value.string _) rfl) ?_
      refine JL.go ⟨_, rfl, hpos⟩ (RX.indexStr rfl rfl ud9 (b := c0) (by decide) (by simp [hs0])) ?_
      refine JL.go ⟨_, rfl, hpos⟩ (RX.eq rfl rfl) ?_
      refine JL.go trivial (RX.pick_t rfl hpos) ?_
      refine JL.go trivial (RX.assignv (v := Value.bool _) rfl) ?_
      refine JL.nil ?_
      first | exact hk2 _ _ _ ⟨rfl, rfl, trivial⟩ ⟨rfl, trivial⟩ ⟨by rw [hs0, mns_cons], H⟩ | exact hk2 _ _ _ ⟨rfl, rfl, trivial⟩ ⟨rfl, trivial⟩ ⟨(mns_nil (by omega)).symm, H⟩
    · skip
      first | have hposp := of_decide_eq_false hpos | skip
      refine JL.no ⟨_, rfl, gno hpos⟩ ?_
      refine JL.no ⟨_, rfl, gno hpos⟩ ?_
      refine JL.no ⟨_, rfl, gno hpos⟩ ?_
      refine JL.go trivial (RX.pick_f rfl hpos) ?_
      refine JL.go trivial (RX.assignv (v := Value.bool _) rfl) ?_
      refine JL.nil ?_
      first | exact hk2 _ _ _ ⟨rfl, rfl, trivial⟩ ⟨rfl, trivial⟩ ⟨by rw [hs0, mns_cons], H⟩ | exact hk2 _ _ _ ⟨rfl, rfl, trivial⟩ ⟨rfl, trivial⟩ ⟨(mns_nil (by omega)).symm, H⟩
  · skip
    clear H
    rintro mi ρ w ⟨hmi, H⟩
    refine J.seq ?_
    refine J.region ?_
    refine JL.go trivial (RX.assign) ?_
    refine JL.nil ?_
    refine J.seq ?_
    refine J.seq ?_
    refine J.region ?_
    refine JL.go trivial (RX.movev (v := Value.bool _) rfl) ?_
    refine JL.nil ?_
    refine J.join (ι := Nat) (fun q => [(6, .int .i64 (q : Nat))]) (fun q w => q = stt s ∧ Hp w0 w F) [(0, _), (4, _), (5, _)] ⟨rfl, rfl, rfl, trivial⟩ ?_ ?_
    rotate_left
    · skip
      intro k2 hk2
      refine J.cond rfl (fun hm1 => ?_) (fun hm1 => ?_)
      · skip
        refine J.region ?_
        refine JL.go trivial (RX.assign) ?_
        refine JL.nil ?_
        first | exact hk2 1 _ _ ⟨rfl, rfl, rfl, trivial⟩ ⟨rfl, trivial⟩ ⟨by unfold stt; rw [← hmi, hm1]; rfl, H⟩ | exact hk2 0 _ _ ⟨rfl, rfl, rfl, trivial⟩ ⟨rfl, trivial⟩ ⟨by unfold stt; rw [← hmi, hm1]; rfl, H⟩
      · skip
        refine J.skip ?_
        first | exact hk2 1 _ _ ⟨rfl, rfl, rfl, trivial⟩ ⟨rfl, trivial⟩ ⟨by unfold stt; rw [← hmi, hm1]; rfl, H⟩ | exact hk2 0 _ _ ⟨rfl, rfl, rfl, trivial⟩ ⟨rfl, trivial⟩ ⟨by unfold stt; rw [← hmi, hm1]; rfl, H⟩
    · skip
      clear H
      rintro st ρ w ⟨hst, H⟩
      have hst1 : st ≤ 1 := by rw [hst]; unfold stt; split <;> omega
      have hstl : st ≤ s.length := by
        rw [hst]; unfold stt mns
        cases s <;> simp
        split <;> omega
      refine J.seq ?_
      refine J.block ?_
      refine J.loop (ι := Nat × Int) (S := fun q => [(6, .int .i64 (q.1 : Nat)), (4, .int .i64 q.2)]) (Φ := fun q w => st ≤ q.1 ∧ q.1 ≤ s.length ∧ q.2 = valW mi ((s.take q.1).drop st) ∧ Hp w0 w F) (μ := fun q => s.length - q.1) (C := [(0, _), (5, _)]) (st, 0) ⟨rfl, rfl, trivial⟩ ⟨rfl, rfl, trivial⟩ ?_ ?_
      · exact ⟨Nat.le_refl _, hstl, by rw [List.drop_take_self, valW_nil], H⟩
      clear H
      rintro ⟨i, n⟩ ρ w ⟨hi0, hi1, hv, H⟩ IH
      simp only at hi0 hi1 hv H
      have hnok : i64ok n := by rw [hv]; exact valW_ok _ _
      dsimp only
      refine J.seq ?_
      refine J.seq ?_
      refine J.region ?_
      refine JL.go trivial (RX.movev (v := Value.int _ _) rfl) ?_
      refine JL.go trivial (RX.movev (v := Value.string _) rfl) ?_
      refine JL.go trivial (RX.len_string rfl ud9 (r := (s.length : Int)) (by rw [b_size])) ?_
      refine JL.go trivial (RX.lt rfl rfl) ?_
      refine JL.go trivial (RX.movev (v := Value.bool _) rfl) ?_
      refine JL.splitS 20 rfl (fun hlt => ?_) (fun hlt => ?_)
      · skip
        first | have hltp := of_decide_eq_true hlt | skip
        have hil : i < s.length := by omega
        obtain ⟨c, hc⟩ : ∃ c, s[i]? = some c := ⟨_, List.getElem?_eq_getElem hil⟩
        have hdg := dgv_eq c
        refine JL.go ⟨_, rfl, hlt⟩ (RX.movev (v := Value.string _) rfl) ?_
        refine JL.go ⟨_, rfl, hlt⟩ (RX.len_string rfl ud9 (r := (s.length : Int)) (by rw [b_size])) ?_
        refine JL.go ⟨_, rfl, hlt⟩ (RX.lt rfl rfl) ?_
        refine JL.go trivial (RX.pick_t rfl hlt) ?_
        refine JL.nil ?_
        refine J.cond_d rfl (fun hlt25 => ?_) (fun hlt25 => ?_)
        · skip
          refine J.skip ?_
          refine J.seq ?_
          refine J.block ?_
          refine J.seq ?_
          refine J.seq ?_
          refine J.region ?_
          refine JL.go trivial (RX.movev (v := Value.string _) rfl) ?_
          refine JL.go trivial (RX.movev (v := Value.int _ _) rfl) ?_
          refine JL.go trivial (RX.indexStr rfl rfl ud9 (b := c) (by omega) hc) ?_
          refine JL.go trivial (RX.lt rfl rfl) ?_
          refine JL.go trivial (RX.movev (v := Value.bool _) rfl) ?_
          refine JL.splitS 31 rfl (fun hlo => ?_) (fun hlo => ?_)
          · skip
            first | have hlop := of_decide_eq_true hlo | skip
            refine JL.no ⟨_, rfl, gno hlo⟩ ?_
            refine JL.no ⟨_, rfl, gno hlo⟩ ?_
            refine JL.no ⟨_, rfl, gno hlo⟩ ?_
            refine JL.no ⟨_, rfl, gno hlo⟩ ?_
            refine JL.go trivial (RX.pick_t rfl hlo) ?_
            refine JL.nil ?_
            refine J.cond_t rfl rfl ?_
            refine J.seq ?_
            refine J.region ?_
            refine JL.go trivial (RX.assign) ?_
            refine JL.go trivial (RX.assign) ?_
            refine JL.nil ?_
            refine J.ret2 (v := Value.int _ _) (x := Value.bool _) Tryd.func50 rfl rfl rfl ?_
            first
            | exact ⟨_, rfl, NumR.none (numS_bad (by omega) hc (by omega)) (by decide), H⟩
            | (refine ⟨_, rfl, NumR.of hnok (fun k h1 h2 => ?_), H⟩
               have hlen := itoa_len h1
               rw [h2] at hlen
               have e : i = s.length := by omega
               subst e
               rw [hv, List.take_length, hmi, hst]
               exact (itoa_shape h2).2 h1)
          · skip
            first | have hlop := of_decide_eq_false hlo | skip
            refine JL.go ⟨_, rfl, hlo⟩ (RX.movev (v := Value.string _) rfl) ?_
            refine JL.go ⟨_, rfl, hlo⟩ (RX.movev (v := Value.int _ _) rfl) ?_
            refine JL.go ⟨_, rfl, hlo⟩ (RX.indexStr rfl rfl ud9 (b := c) (by omega) hc) ?_
            refine JL.go ⟨_, rfl, hlo⟩ (RX.gt rfl rfl) ?_
            refine JL.go trivial (RX.pick_f rfl hlo) ?_
            refine JL.nil ?_
            refine J.cond_d rfl (fun hhi => ?_) (fun hhi => ?_)
            · skip
              refine J.seq ?_
              refine J.region ?_
              refine JL.go trivial (RX.assign) ?_
              refine JL.go trivial (RX.assign) ?_
              refine JL.nil ?_
              refine J.ret2 (v := Value.int _ _) (x := Value.bool _) Tryd.func50 rfl rfl rfl ?_
              first
              | exact ⟨_, rfl, NumR.none (numS_bad (by omega) hc (by omega)) (by decide), H⟩
              | (refine ⟨_, rfl, NumR.of hnok (fun k h1 h2 => ?_), H⟩
                 have hlen := itoa_len h1
                 rw [h2] at hlen
                 have e : i = s.length := by omega
                 subst e
                 rw [hv, List.take_length, hmi, hst]
                 exact (itoa_shape h2).2 h1)
            · skip
              refine J.skip ?_
              refine J.seq ?_
              refine J.region ?_
              refine JL.go trivial (RX.movev (v := Value.bool _) rfl) ?_
              refine JL.nil ?_
              refine J.cond rfl (fun hmi1 => ?_) (fun hmi1 => ?_)
              · skip
                refine J.region ?_
                refine JL.go trivial (RX.movev (v := Value.int _ _) rfl) ?_
                refine JL.go trivial (RX.mul rfl rfl (r := IntKind.i64.wrap (10 * n)) rfl) ?_
                refine JL.go trivial (RX.movev (v := Value.string _) rfl) ?_
                refine JL.go trivial (RX.movev (v := Value.int _ _) rfl) ?_
                refine JL.go trivial (RX.indexStr rfl rfl ud9 (b := c) (by omega) hc) ?_
                refine JL.go trivial (RX.sub rfl rfl (w_u8 (r := (dgv c : Int)) (by omega) (by omega) (by omega))) ?_
                refine JL.go trivial (RX.conv rfl (by rw [ki5]; rfl) ki3 (w_i64 rfl (by omega) (by omega))) ?_
                refine JL.go trivial (RX.sub rfl rfl (r := valW mi ((s.take (i + 1)).drop st)) (by rw [seg_succ hi0 hc, hv, hmi1]; exact valW_neg _ c)) ?_
                refine JL.go trivial (RX.assignv (v := Value.int _ _) rfl) ?_
                refine JL.nil ?_
                refine J.inBlock ?_
                refine J.region ?_
                refine JL.go trivial (RX.movev (v := Value.int _ _) rfl) ?_
                refine JL.go trivial (RX.add rfl rfl (w_i64 (r := ((i + 1 : Nat) : Int)) (by omega) (by omega) (by omega))) ?_
                refine JL.go trivial (RX.assignv (v := Value.int _ _) rfl) ?_
                refine JL.nil ?_
                exact IH (i + 1, valW mi ((s.take (i + 1)).drop st)) _ _ (by simp only; omega) ⟨rfl, rfl, trivial⟩ ⟨rfl, rfl, trivial⟩ ⟨by simp only; omega, by simp only; omega, rfl, H⟩
              · skip
                refine J.region ?_
                refine JL.go trivial (RX.movev (v := Value.int _ _) rfl) ?_
                refine JL.go trivial (RX.mul rfl rfl (r := IntKind.i64.wrap (10 * n)) rfl) ?_
                refine JL.go trivial (RX.movev (v := Value.string _) rfl) ?_
                refine JL.go trivial (RX.movev (v := Value.int _ _) rfl) ?_
                refine JL.go trivial (RX.indexStr rfl rfl ud9 (b := c) (by omega) hc) ?_
                refine JL.go trivial (RX.sub rfl rfl (w_u8 (r := (dgv c : Int)) (by omega) (by omega) (by omega))) ?_
                refine JL.go trivial (RX.conv rfl (by rw [ki5]; rfl) ki3 (w_i64 rfl (by omega) (by omega))) ?_
                refine JL.go trivial (RX.add rfl rfl (r := valW mi ((s.take (i + 1)).drop st)) (by rw [seg_succ hi0 hc, hv, hmi1]; exact valW_pos _ c)) ?_
                refine JL.go trivial (RX.assignv (v := Value.int _ _) rfl) ?_
                refine JL.nil ?_
                refine J.inBlock ?_
                refine J.region ?_
                refine JL.go trivial (RX.movev (v := Value.int _ _) rfl) ?_
                refine JL.go trivial (RX.add rfl rfl (w_i64 (r := ((i + 1 : Nat) : Int)) (by omega) (by omega) (by omega))) ?_
                refine JL.go trivial (RX.assignv (v := Value.int _ _) rfl) ?_
                refine JL.nil ?_
                exact IH (i + 1, valW mi ((s.take (i + 1)).drop st)) _ _ (by simp only; omega) ⟨rfl, rfl, trivial⟩ ⟨rfl, rfl, trivial⟩ ⟨by simp only; omega, by simp only; omega, rfl, H⟩
        · skip
          refine J.exit rfl ?_
          refine J.seq ?_
          refine J.region ?_
          refine JL.go trivial (RX.movev (v := Value.int _ _) rfl) ?_
          refine JL.go trivial (RX.movev (v := Value.int _ _) rfl) ?_
          refine JL.does trivial (EX.call rfl cl19 rfl ((rnum_b H hnok))) ?_
          rintro _ w ⟨rfl, H⟩
          refine JL.go trivial (RX.movev (v := Value.string _) rfl) ?_
          refine JL.go trivial (RX.str_eql rfl rfl) ?_
          refine JL.go trivial (RX.assignv (v := Value.int _ _) rfl) ?_
          refine JL.go trivial (RX.assignv (v := Value.bool _) rfl) ?_
          refine JL.nil ?_
          refine J.ret2 (v := Value.int _ _) (x := Value.bool _) Tryd.func50 rfl rfl rfl ?_
          first
          | exact ⟨_, rfl, NumR.none (numS_bad (by omega) hc (by omega)) (by decide), H⟩
          | (refine ⟨_, rfl, NumR.of hnok (fun k h1 h2 => ?_), H⟩
             have hlen := itoa_len h1
             rw [h2] at hlen
             have e : i = s.length := by omega
             subst e
             rw [hv, List.take_length, hmi, hst]
             exact (itoa_shape h2).2 h1)
      · skip
        first | have hltp := of_decide_eq_false hlt | skip
        refine JL.no ⟨_, rfl, gno hlt⟩ ?_
        refine JL.no ⟨_, rfl, gno hlt⟩ ?_
        refine JL.no ⟨_, rfl, gno hlt⟩ ?_
        refine JL.go trivial (RX.pick_f rfl hlt) ?_
        refine JL.nil ?_
        refine J.cond_f rfl rfl ?_
        refine J.exit rfl ?_
        refine J.seq ?_
        refine J.region ?_
        refine JL.go trivial (RX.movev (v := Value.int _ _) rfl) ?_
        refine JL.go trivial (RX.movev (v := Value.int _ _) rfl) ?_
        refine JL.does trivial (EX.call rfl cl19 rfl ((rnum_b H hnok))) ?_
        rintro _ w ⟨rfl, H⟩
        refine JL.go trivial (RX.movev (v := Value.string _) rfl) ?_
        refine JL.go trivial (RX.str_eql rfl rfl) ?_
        refine JL.go trivial (RX.assignv (v := Value.int _ _) rfl) ?_
        refine JL.go trivial (RX.assignv (v := Value.bool _) rfl) ?_
        refine JL.nil ?_
        refine J.ret2 (v := Value.int _ _) (x := Value.bool _) Tryd.func50 rfl rfl rfl ?_
        first
        | exact ⟨_, rfl, NumR.none (numS_bad (by omega) hc (by omega)) (by decide), H⟩
        | (refine ⟨_, rfl, NumR.of hnok (fun k h1 h2 => ?_), H⟩
           have hlen := itoa_len h1
           rw [h2] at hlen
           have e : i = s.length := by omega
           subst e
           rw [hv, List.take_length, hmi, hst]
           exact (itoa_shape h2).2 h1)
theorem elSt : Elem Tryd.prog 78 9 1 16 := Elem.of (by kernel_rfl)
theorem rcut_b {w0 w : World} {F : List Seg} (H : Hp w0 w F) {s : List UInt8} {b : UInt8} (hs : s.length < 4294967281) : Ret Tryd.prog 30 [.string ⟨s.toArray⟩, .int .u8 b.toNat] w fun v w' => ∃ p c sg, v = .slice p (cutL b s).length c ∧ OwnSl 9 1 p (cutL b s).length c (strsV (cutL b s)) sg ∧ Hp w0 w' (sg :: F) := by
  refine Calls.of_J (n := 36) Tryd.func30 rfl rfl rfl ?_
  refine J.seq ?_
  refine J.region ?_
  refine JL.go trivial (RX.assign) ?_
  refine JL.nil ?_
  refine J.seq ?_
  refine J.region ?_
  refine JL.does trivial (EX.buildSlice0 H elSt) ?_
  rintro _ w ⟨b0, rfl, H⟩
  refine JL.go trivial (RX.assignv (v := Value.slice _ _ _) rfl) ?_
  refine JL.nil ?_
  refine J.seq ?_
  refine J.region ?_
  refine JL.go trivial (RX.assign) ?_
  refine JL.nil ?_
  refine J.seq ?_
  refine J.seq ?_
  refine J.region ?_
  refine JL.go trivial (RX.assign) ?_
  refine JL.nil ?_
  refine J.block ?_
  refine J.loop (ι := Nat × Nat × List (List UInt8) × Option Addr × Nat × Seg) (S := fun q => [(7, .int .i64 (q.1 : Nat)), (6, .int .i64 (q.2.1 : Nat)), (5, .slice q.2.2.2.1 q.2.2.1.length q.2.2.2.2.1)]) (Φ := fun q w => q.2.2.1.length ≤ q.1 ∧ ((q.1 ≤ s.length ∧ q.2.1 ≤ q.1 ∧ cutL b s = q.2.2.1 ++ cutA b ((s.take q.1).drop q.2.1) (s.drop q.1)) ∨ (q.1 = s.length + 1 ∧ cutL b s = q.2.2.1)) ∧ OwnSl 9 1 q.2.2.2.1 q.2.2.1.length q.2.2.2.2.1 (strsV q.2.2.1) q.2.2.2.2.2 ∧ Hp w0 w (q.2.2.2.2.2 :: F)) (μ := fun q => s.length + 1 - q.1) (C := [(0, _), (1, _)]) (0, 0, [], some ⟨b0, 0, none⟩, 0, [(b0, cel [] 9)]) ⟨rfl, rfl, trivial⟩ ⟨rfl, rfl, rfl, trivial⟩ ?_ ?_
  · exact ⟨by simp, .inl ⟨by simp, by simp, by simp [cutL]⟩, OwnSl.empty, H⟩
  clear H
  rintro ⟨i, f, outs, p, c, sg⟩ ρ w ⟨hol, hcut, ho, H⟩ IH
  simp only at hol hcut ho H
  dsimp only
  refine J.seq ?_
  refine J.seq ?_
  refine J.region ?_
  refine JL.go trivial (RX.movev (v := Value.int _ _) rfl) ?_
  refine JL.go trivial (RX.movev (v := Value.string _) rfl) ?_
  refine JL.go trivial (RX.len_string rfl ud9 (r := (s.length : Int)) (by rw [b_size])) ?_
  refine JL.go trivial (RX.le rfl rfl) ?_
  refine JL.nil ?_
  refine J.cond_d rfl (fun hle => ?_) (fun hle => ?_)
  · skip
    obtain ⟨hi, hf, hcut⟩ : i ≤ s.length ∧ f ≤ i ∧ cutL b s = outs ++ cutA b ((s.take i).drop f) (s.drop i) := by
      rcases hcut with h | ⟨h, _⟩
      · exact h
      · omega
    refine J.skip ?_
    refine J.seq ?_
    refine J.block ?_
    refine J.seq ?_
    refine J.region ?_
    refine JL.go trivial (RX.movev (v := Value.int _ _) rfl) ?_
    refine JL.go trivial (RX.movev (v := Value.string _) rfl) ?_
    refine JL.go trivial (RX.len_string rfl ud9 (r := (s.length : Int)) (by rw [b_size])) ?_
    refine JL.go trivial (RX.eq rfl rfl) ?_
    refine JL.go trivial (RX.movev (v := Value.bool _) rfl) ?_
    refine JL.splitS 19 rfl (fun heq => ?_) (fun heq => ?_)
    · skip
      first | have heqp := of_decide_eq_true heq | skip
      have hei : i = s.length := by omega
      refine JL.no ⟨_, rfl, gno heq⟩ ?_
      refine JL.no ⟨_, rfl, gno heq⟩ ?_
      refine JL.no ⟨_, rfl, gno heq⟩ ?_
      refine JL.no ⟨_, rfl, gno heq⟩ ?_
      refine JL.no ⟨_, rfl, gno heq⟩ ?_
      refine JL.go trivial (RX.pick_t rfl heq) ?_
      refine JL.nil ?_
      refine J.cond_t rfl rfl ?_
      refine J.seq ?_
      refine J.region ?_
      refine JL.go trivial (RX.movev (v := Value.slice _ _ _) rfl) ?_
      refine JL.go trivial (RX.movev (v := Value.string _) rfl) ?_
      refine JL.go trivial (RX.movev (v := Value.int _ _) rfl) ?_
      refine JL.go trivial (RX.movev (v := Value.int _ _) rfl) ?_
      refine JL.go trivial (RX.slStr (a := s) (r := (s.take i).drop f) rfl rfl rfl ud9 (by omega) (by omega) (by omega) (by rw [List.drop_take]; congr 1 <;> omega)) ?_
      refine JL.does trivial (EX.buildSlice1 (v := Value.string _) H elSt rfl rfl) ?_
      rintro _ w ⟨b1, rfl, H⟩
      refine JL.does trivial (EX.append (ys := strsV [(s.take i).drop f]) (L' := fun s' => [(b1, cel [.string ⟨((s.take i).drop f).toArray⟩] 9)] :: s' :: F) H elSt rfl rfl (i := 1) rfl ho (SlAt.here rfl) rfl (by simp [strsV, isCell]) (by decide) (by omega) (by omega) (fun _ => rfl)) ?_
      rintro _ w ⟨p2, c2, s2, rfl, ho2, H⟩
      replace H := H.drop
      refine JL.go trivial (RX.assignv (v := Value.slice _ _ _) rfl) ?_
      refine JL.nil ?_
      rw [← strsV_app] at ho2
      have hn2 : outs.length + 1 = (outs ++ [(s.take i).drop f]).length := by simp
      rw [hn2] at ho2
      refine J.region ?_
      refine JL.go trivial (RX.movev (v := Value.int _ _) rfl) ?_
      refine JL.go trivial (RX.add rfl rfl (w_i64 (r := ((i + 1 : Nat) : Int)) (by omega) (by omega) (by omega))) ?_
      refine JL.go trivial (RX.assignv (v := Value.int _ _) rfl) ?_
      refine JL.nil ?_
      refine J.inBlock ?_
      refine J.region ?_
      refine JL.go trivial (RX.movev (v := Value.int _ _) rfl) ?_
      refine JL.go trivial (RX.add rfl rfl (w_i64 (r := ((i + 1 : Nat) : Int)) (by omega) (by omega) (by omega))) ?_
      refine JL.go trivial (RX.assignv (v := Value.int _ _) rfl) ?_
      refine JL.nil ?_
      rw [hn2]
      exact IH (i + 1, i + 1, outs ++ [(s.take i).drop f], p2, c2, s2) _ _ (by simp only; omega) ⟨rfl, rfl, trivial⟩ ⟨rfl, rfl, rfl, trivial⟩ ⟨by simp; omega, .inr ⟨by simp only; omega, by rw [hcut, hei, List.drop_length, cutA]⟩, ho2, H⟩
    · skip
      first | have heqp := of_decide_eq_false heq | skip
      have hil : i < s.length := by omega
      obtain ⟨x, hx⟩ : ∃ x, s[i]? = some x := ⟨_, List.getElem?_eq_getElem hil⟩
      have hcm := cut_mid (b := b) hf hx
      refine JL.go ⟨_, rfl, heq⟩ (RX.movev (v := Value.string _) rfl) ?_
      refine JL.go ⟨_, rfl, heq⟩ (RX.movev (v := Value.int _ _) rfl) ?_
      refine JL.go ⟨_, rfl, heq⟩ (RX.indexStr rfl rfl ud9 (b := x) (by omega) hx) ?_
      refine JL.go ⟨_, rfl, heq⟩ (RX.movev (v := Value.int _ _) rfl) ?_
      refine JL.go ⟨_, rfl, heq⟩ (RX.eq rfl rfl) ?_
      refine JL.go trivial (RX.pick_f rfl heq) ?_
      refine JL.nil ?_
      refine J.cond_d rfl (fun hxb => ?_) (fun hxb => ?_)
      · skip
        have hxb2 : x = b := UInt8.toNat_inj.1 (by omega)
        rw [if_pos hxb2] at hcm
        refine J.seq ?_
        refine J.region ?_
        refine JL.go trivial (RX.movev (v := Value.slice _ _ _) rfl) ?_
        refine JL.go trivial (RX.movev (v := Value.string _) rfl) ?_
        refine JL.go trivial (RX.movev (v := Value.int _ _) rfl) ?_
        refine JL.go trivial (RX.movev (v := Value.int _ _) rfl) ?_
        refine JL.go trivial (RX.slStr (a := s) (r := (s.take i).drop f) rfl rfl rfl ud9 (by omega) (by omega) (by omega) (by rw [List.drop_take]; congr 1 <;> omega)) ?_
        refine JL.does trivial (EX.buildSlice1 (v := Value.string _) H elSt rfl rfl) ?_
        rintro _ w ⟨b1, rfl, H⟩
        refine JL.does trivial (EX.append (ys := strsV [(s.take i).drop f]) (L' := fun s' => [(b1, cel [.string ⟨((s.take i).drop f).toArray⟩] 9)] :: s' :: F) H elSt rfl rfl (i := 1) rfl ho (SlAt.here rfl) rfl (by simp [strsV, isCell]) (by decide) (by omega) (by omega) (fun _ => rfl)) ?_
        rintro _ w ⟨p2, c2, s2, rfl, ho2, H⟩
        replace H := H.drop
        refine JL.go trivial (RX.assignv (v := Value.slice _ _ _) rfl) ?_
        refine JL.nil ?_
        rw [← strsV_app] at ho2
        have hn2 : outs.length + 1 = (outs ++ [(s.take i).drop f]).length := by simp
        rw [hn2] at ho2
        refine J.region ?_
        refine JL.go trivial (RX.movev (v := Value.int _ _) rfl) ?_
        refine JL.go trivial (RX.add rfl rfl (w_i64 (r := ((i + 1 : Nat) : Int)) (by omega) (by omega) (by omega))) ?_
        refine JL.go trivial (RX.assignv (v := Value.int _ _) rfl) ?_
        refine JL.nil ?_
        refine J.inBlock ?_
        refine J.region ?_
        refine JL.go trivial (RX.movev (v := Value.int _ _) rfl) ?_
        refine JL.go trivial (RX.add rfl rfl (w_i64 (r := ((i + 1 : Nat) : Int)) (by omega) (by omega) (by omega))) ?_
        refine JL.go trivial (RX.assignv (v := Value.int _ _) rfl) ?_
        refine JL.nil ?_
        rw [hn2]
        exact IH (i + 1, i + 1, outs ++ [(s.take i).drop f], p2, c2, s2) _ _ (by simp only; omega) ⟨rfl, rfl, trivial⟩ ⟨rfl, rfl, rfl, trivial⟩ ⟨by simp; omega, .inl ⟨by simp only; omega, by simp only; omega, by rw [hcut, hcm]; simp⟩, ho2, H⟩
      · skip
        refine J.skip ?_
        refine J.inBlock ?_
        refine J.region ?_
        refine JL.go trivial (RX.movev (v := Value.int _ _) rfl) ?_
        refine JL.go trivial (RX.add rfl rfl (w_i64 (r := ((i + 1 : Nat) : Int)) (by omega) (by omega) (by omega))) ?_
        refine JL.go trivial (RX.assignv (v := Value.int _ _) rfl) ?_
        refine JL.nil ?_
        have hxb2 : x ≠ b := fun e => hxb (by rw [e])
        rw [if_neg hxb2] at hcm
        exact IH (i + 1, f, outs, p, c, sg) _ _ (by simp only; omega) ⟨rfl, rfl, trivial⟩ ⟨rfl, rfl, rfl, trivial⟩ ⟨by simp only; omega, .inl ⟨by simp only; omega, by simp only; omega, by rw [hcut, hcm]⟩, ho, H⟩
  · skip
    refine J.exit rfl ?_
    refine J.seq ?_
    refine J.region ?_
    refine JL.go trivial (RX.movev (v := Value.slice _ _ _) rfl) ?_
    refine JL.go trivial (RX.assignv (v := Value.slice _ _ _) rfl) ?_
    refine JL.nil ?_
    refine J.ret1 (v := Value.slice _ _ _) Tryd.func30 rfl rfl ?_
    have hfin : cutL b s = outs := by
      rcases hcut with ⟨h, _⟩ | ⟨_, h⟩
      · omega
      · exact h
    rw [hfin]
    exact ⟨_, rfl, p, c, sg, rfl, ho, H⟩
end
end Go.Proofs.YtgkmmbdlclecnaaDoor
