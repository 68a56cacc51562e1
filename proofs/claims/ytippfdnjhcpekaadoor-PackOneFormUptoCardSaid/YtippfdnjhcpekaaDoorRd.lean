/- The Reader: floats, complex numbers, texts, lists. -/
import Derived.Test.YtippfdnjhcpekaaDoorP5
namespace Go.Proofs.YtippfdnjhcpekaaDoor
open Go Go.Eng
set_option maxRecDepth 100000
set_option linter.unusedVariables false
set_option linter.unusedSimpArgs false

/-- The errors of package pack: five listed variables; the other numbers are never seen. -/
structure Er (F : List Seg) (E : Nat → Value) : Prop where
  ie : ∀ i, 1 ≤ i → i ≤ 19 → isErr (E i) = true ∧ isNil (E i) = false
  g1 : GErr F 1 (E 1)
  g2 : GErr F 2 (E 2)
  g3 : GErr F 4 (E 3)
  g4 : GErr F 0 (E 4)
  g13 : GErr F 3 (E 13)
theorem Er.cons {F : List Seg} {s : Seg} {E : Nat → Value} (h : Er F E) : Er (s :: F) E := ⟨h.ie, h.g1.cons, h.g2.cons, h.g3.cons, h.g4.cons, h.g13.cons⟩
theorem Errs.w {F : List Seg} {E : Nat → Value} {Q : Nat → Addr} (h : Errs F E Q) : Er F E :=
  ⟨fun i h0 h1 => ⟨(h.at_ i h0 h1).ie, (h.at_ i h0 h1).nn⟩, h.at_ 1 (by decide) (by decide), h.at_ 2 (by decide) (by decide), h.at_ 3 (by decide) (by decide), h.at_ 4 (by decide) (by decide), h.at_ 13 (by decide) (by decide)⟩
theorem er_ie {F : List Seg} {E : Nat → Value} (h : Er F E) {n : Nat} (hn : n ≤ 19) : isErr (errV E n) = true ∧ isNil (errV E n) = decide (n = 0) := by
  by_cases h0 : n = 0
  · subst h0; exact ⟨rfl, rfl⟩
  · have := h.ie n (by omega) hn
    rw [errV_pos (by omega), decide_eq_false h0]
    exact this
theorem rUint_c {w0 w : World} {F : List Seg} {b T c at_ : Nat} {p : Option Addr} {s : Seg} {bs : List UInt8} {E : Nat → Value} (H : Hp w0 w ([(b, cel [.slice p bs.length c, .int .i64 (at_ : Nat)] T)] :: s :: F)) (ho : OwnSl 5 1 p bs.length c (bv bs) s) (hat : at_ ≤ bs.length) (hl : bs.length ≤ 1099511627776) (hE : Er F E) : Ret Tryd.prog 24 [.pointer (some ⟨b, 0, none⟩)] w (fun v w' => v = .tuple #[.int .u64 ((rU (bs.drop at_)).val 0 : Nat), errV E (rU (bs.drop at_)).code] ∧ Hp w0 w' ([(b, cel [.slice p bs.length c, .int .i64 (at_ + (rU (bs.drop at_)).k : Nat)] T)] :: s :: F)) := by
  refine (uint_r H ho hat hl hE.g1 hE.g2).mono fun v w' h => ?_
  obtain ⟨rfl, H⟩ := h
  have hg := (rU_good (bs.drop at_)).1
  unfold rU at *
  cases hr : rdu 0 0 (bs.drop at_) with
  | ok x k => rw [hr] at H; exact ⟨rfl, H⟩
  | err e =>
    rw [hr] at H hg
    have h1 : 1 ≤ e := hg.1
    exact ⟨by simp only [rdOut, toRs, Rs.val, Rs.code, errV_pos (E := E) h1]; rfl, H⟩
theorem rUpto_c {w0 w : World} {F : List Seg} {b T c at_ : Nat} {p : Option Addr} {s : Seg} {bs : List UInt8} {E : Nat → Value} (H : Hp w0 w ([(b, cel [.slice p bs.length c, .int .i64 (at_ : Nat)] T)] :: s :: F)) (ho : OwnSl 5 1 p bs.length c (bv bs) s) (hat : at_ ≤ bs.length) (hl : bs.length ≤ 1099511627776) (hE : Er F E) {most : Int} (hm0 : -9223372036854775808 ≤ most) (hm1 : most ≤ 9223372036854775807) : Ret Tryd.prog 57 [.pointer (some ⟨b, 0, none⟩), .int .i64 most] w (fun v w' => v = .tuple #[.int .i64 ((rUp most (bs.drop at_)).val 0 : Nat), errV E (rUp most (bs.drop at_)).code] ∧ Hp w0 w' ([(b, cel [.slice p bs.length c, .int .i64 (at_ + (rUp most (bs.drop at_)).k : Nat)] T)] :: s :: F)) := by
  refine (upto_r H ho hat hl hE.g1 hE.g2 hE.g3 hm0 hm1).mono fun v w' h => ?_
  obtain ⟨rfl, H⟩ := h
  have hg := (rUp_good most (bs.drop at_)).1
  unfold rUp at *
  cases hr : (rdu 0 0 (bs.drop at_)).upto most with
  | ok x k => rw [hr] at H; exact ⟨rfl, H⟩
  | err e =>
    rw [hr] at H hg
    have h1 : 1 ≤ e := hg.1
    exact ⟨by simp only [rdN, isE, toRs, Rs.val, Rs.code, errV_pos (E := E) h1], H⟩
theorem rInt_c {w0 w : World} {F : List Seg} {b T c at_ : Nat} {p : Option Addr} {s : Seg} {bs : List UInt8} {E : Nat → Value} (H : Hp w0 w ([(b, cel [.slice p bs.length c, .int .i64 (at_ : Nat)] T)] :: s :: F)) (ho : OwnSl 5 1 p bs.length c (bv bs) s) (hat : at_ ≤ bs.length) (hl : bs.length ≤ 1099511627776) (hE : Er F E) : Ret Tryd.prog 26 [.pointer (some ⟨b, 0, none⟩)] w (fun v w' => v = .tuple #[.int .i64 ((rI (bs.drop at_)).val 0), errV E (rI (bs.drop at_)).code] ∧ Hp w0 w' ([(b, cel [.slice p bs.length c, .int .i64 (at_ + (rI (bs.drop at_)).k : Nat)] T)] :: s :: F)) := by
  refine Calls.of_J (n := 20) Tryd.func26 rfl rfl rfl ?_
  refine J.seq ?_
  refine J.region ?_
  refine JL.go trivial (RX.assign) ?_
  refine JL.go trivial (RX.assign) ?_
  refine JL.nil ?_
  refine J.seq ?_
  refine J.region ?_
  refine JL.go trivial (RX.movev (v := Value.pointer _) rfl) ?_
  refine JL.does trivial (EX.call rfl cl24 rfl ((rUint_c H ho hat hl hE))) ?_
  rintro _ w ⟨rfl, H⟩
  have hg := rU_good (bs.drop at_)
  have hin : u64ok ((rU (bs.drop at_)).val 0) := by
    cases hr : rU (bs.drop at_) with
    | ok x k => exact (hg.2.1 x k hr).1
    | err e => exact Nat.zero_le _
  have hcode : (rI (bs.drop at_)).code = (rU (bs.drop at_)).code ∧ (rI (bs.drop at_)).k = (rU (bs.drop at_)).k ∧ (rI (bs.drop at_)).val 0 = unzig ((rU (bs.drop at_)).val 0) := by
    unfold rI
    cases rU (bs.drop at_) with
    | ok x k => exact ⟨rfl, rfl, rfl⟩
    | err e => exact ⟨rfl, rfl, (show (0 : Int) = unzig 0 by decide)⟩
  have hie := er_ie hE (n := (rU (bs.drop at_)).code) hg.1.code
  rw [hcode.1, hcode.2.1, hcode.2.2]
  generalize (rU (bs.drop at_)).val 0 = x at hin ⊢
  have hin2 := hin
  unfold u64ok at hin2
  refine JL.go trivial (RX.movev (v := Value.tuple _) rfl) ?_
  refine JL.go trivial (RX.extract rfl rfl) ?_
  refine JL.go trivial (RX.extract (v := errV E (rU (bs.drop at_)).code) rfl rfl) ?_
  refine JL.go trivial (RX.assignv (v := Value.int _ _) rfl) ?_
  refine JL.go trivial (RX.assign) ?_
  refine JL.nil ?_
  refine J.seq ?_
  refine J.region ?_
  refine JL.go trivial (RX.movev (v := Value.int _ _) rfl) ?_
  refine JL.go trivial (RX.shr rfl rfl (by decide) (r := ((x / 2 : Nat) : Int)) (by rfl)) ?_
  refine JL.go trivial (RX.conv rfl (by rw [ki27]; rfl) ki2 (w_i64 (r := ((x / 2 : Nat) : Int)) rfl (by omega) (by omega))) ?_
  refine JL.go trivial (RX.movev (v := Value.int _ _) rfl) ?_
  refine JL.go trivial (RX.and rfl rfl (and_one hin)) ?_
  refine JL.go trivial (RX.conv rfl (by rw [ki27]; rfl) ki2 (w_i64 (r := ((x % 2 : Nat) : Int)) rfl (by omega) (by omega))) ?_
  refine JL.go trivial (RX.neg rfl (w_i64 (r := -((x % 2 : Nat) : Int)) (by omega) (by omega) (by omega))) ?_
  refine JL.go trivial (RX.xor rfl rfl (unzig_run hin)) ?_
  refine JL.go trivial (RX.move) ?_
  refine JL.go trivial (RX.assignv (v := Value.int _ _) rfl) ?_
  refine JL.go trivial (RX.assign) ?_
  refine JL.nil ?_
  refine J.ret2 (v := Value.int _ _) Tryd.func26 rfl rfl rfl ?_
  exact ⟨_, rfl, rfl, H⟩
theorem rlow_c {w0 w : World} {F : List Seg} {b T c at_ : Nat} {p : Option Addr} {s : Seg} {bs : List UInt8} {E : Nat → Value} (H : Hp w0 w ([(b, cel [.slice p bs.length c, .int .i64 (at_ : Nat)] T)] :: s :: F)) (ho : OwnSl 5 1 p bs.length c (bv bs) s) (hat : at_ ≤ bs.length) (hl : bs.length ≤ 1099511627776) (hE : Er F E) {n : Nat} (hn : n ≤ 8) : Ret Tryd.prog 72 [.pointer (some ⟨b, 0, none⟩), .int .i64 n] w (fun v w' => v = .tuple #[.int .u64 ((rLow n (bs.drop at_)).val 0 : Nat), errV E (rLow n (bs.drop at_)).code] ∧ Hp w0 w' ([(b, cel [.slice p bs.length c, .int .i64 (at_ + (rLow n (bs.drop at_)).k : Nat)] T)] :: s :: F)) := by
  refine Calls.of_J (n := 45) Tryd.func72 rfl rfl rfl ?_
  refine J.seq ?_
  refine J.region ?_
  refine JL.go trivial (RX.assign) ?_
  refine JL.go trivial (RX.assign) ?_
  refine JL.nil ?_
  refine J.seq ?_
  refine J.seq ?_
  refine J.region ?_
  refine JL.go trivial (RX.movev (v := Value.pointer _) rfl) ?_
  refine JL.does trivial (EX.call rfl cl20 rfl ((left_r H ho hat hl))) ?_
  rintro _ w ⟨rfl, H⟩
  refine JL.go trivial (RX.movev (v := Value.int _ _) rfl) ?_
  refine JL.go trivial (RX.lt rfl rfl) ?_
  refine JL.nil ?_
  refine J.cond_d rfl (fun hsh => ?_) (fun hsh => ?_)
  · skip
    refine J.seq ?_
    refine J.quietH H hmix (by kernel_rfl) ?_
    refine JQ.go trivial (fun w H => RX.loadG H rfl hE.g1.at_.cons.cons one40) ?_
    refine JQ.go trivial (fun w H => RX.assign) ?_
    refine JQ.go trivial (fun w H => RX.assign) ?_
    refine JQ.nil fun w H => ?_
    refine J.ret2 (v := Value.int _ _) Tryd.func72 rfl rfl rfl ?_
    rw [rLow, if_pos (by rw [List.length_drop]; omega)]
    exact ⟨_, rfl, by rw [show errV E (Rs.err (α := Nat) 1).code = E 1 from errV_pos (by decide)]; rfl, H⟩
  · skip
    have hlg : n ≤ bs.length - at_ := by omega
    rw [rLow, if_neg (by rw [List.length_drop]; omega)]
    refine J.skip ?_
    refine J.seq ?_
    refine J.region ?_
    refine JL.go trivial (RX.assign) ?_
    refine JL.nil ?_
    refine J.seq ?_
    refine J.seq ?_
    refine J.region ?_
    refine JL.go trivial (RX.movev (v := Value.int _ _) rfl) ?_
    refine JL.go trivial (RX.move) ?_
    refine JL.nil ?_
    refine J.block ?_
    refine J.loop (ι := Nat) (S := fun i => [(6, .int .u64 (ofLE ((bs.drop at_).take i) : Nat)), (14, .int .i64 (i : Nat))]) (Φ := fun i w => i ≤ n ∧ Hp w0 w ([(b, cel [.slice p bs.length c, .int .i64 (at_ : Nat)] T)] :: s :: F)) (μ := fun i => n - i) (C := [(0, _), (1, _), (13, _)]) 0 ⟨rfl, rfl, rfl, trivial⟩ ⟨rfl, rfl, trivial⟩ ?_ ?_
    · exact ⟨by omega, H⟩
    clear H
    rintro i ρ w ⟨hi, H⟩ IH
    have hlt := ofLE_lt ((bs.drop at_).take i)
    rw [List.length_take, List.length_drop, Nat.min_eq_left (by omega)] at hlt
    refine J.seq ?_
    refine J.region ?_
    refine JL.go trivial (RX.lt rfl rfl) ?_
    refine JL.nil ?_
    refine J.seq ?_
    refine J.cond_d rfl (fun hin => ?_) (fun hin => ?_)
    · skip
      have hi8 : i < 8 := by omega
      obtain ⟨bb, hbb⟩ : ∃ bb, bs[at_ + i]? = some bb := ⟨_, List.getElem?_eq_getElem (by omega)⟩
      have hnx : ofLE ((bs.drop at_).take (i + 1)) = ofLE ((bs.drop at_).take i) + bb.toNat * 256 ^ i := by
        have hd : (bs.drop at_)[i]? = some bb := by rw [List.getElem?_drop]; exact hbb
        obtain ⟨hi2, hd2⟩ := List.getElem?_eq_some_iff.1 hd
        rw [List.take_succ_eq_append_getElem hi2, ofLE_snoc, hd2, List.length_take, Nat.min_eq_left (by omega)]
      obtain ⟨gb, l, rfl, rfl, hll⟩ := ho.ptr (by omega)
      have hblt := bb.toNat_lt
      refine J.skip ?_
      refine J.seq ?_
      refine J.block ?_
      refine J.seq ?_
      refine J.region ?_
      refine JL.go trivial (RX.movev (v := Value.int _ _) rfl) ?_
      refine JL.go trivial (RX.assignv (v := Value.int _ _) rfl) ?_
      refine JL.nil ?_
      refine J.quietH H hmix (by kernel_rfl) ?_
      refine JQ.go trivial (fun w H => RX.movev (v := Value.int _ _) rfl) ?_
      refine JQ.go trivial (fun w H => RX.movev (v := Value.pointer _) rfl) ?_
      refine JQ.go trivial (fun w H => RX.nilCheck rfl) ?_
      refine JQ.go trivial (fun w H => RX.fieldAddr rfl fo102_0 rfl) ?_
      refine JQ.go trivial (fun w H => by first | exact RX.load H rfl (i := 0) rfl rfl one26 | exact RX.load H rfl (i := 1) rfl rfl one26) ?_
      refine JQ.go trivial (fun w H => RX.movev (v := Value.pointer _) rfl) ?_
      refine JQ.go trivial (fun w H => RX.nilCheck rfl) ?_
      refine JQ.go trivial (fun w H => RX.fieldAddr rfl fo102_1 rfl) ?_
      refine JQ.go trivial (fun w H => by first | exact RX.load H rfl (i := 0) rfl rfl one3 | exact RX.load H rfl (i := 1) rfl rfl one3) ?_
      refine JQ.go trivial (fun w H => RX.movev (v := Value.int _ _) rfl) ?_
      refine JQ.go trivial (fun w H => RX.add rfl rfl (w_i64 rfl (by omega) (by omega))) ?_
      refine JQ.go trivial (fun w H => RX.indexAddr rfl rfl sl26 (by omega) (by omega) rfl) ?_
      refine JQ.go trivial (fun w H => RX.loadS H ((SlAt.here hll.2.2).cons) rfl (j := at_ + i) (by omega) (bv_get hbb) one5) ?_
      refine JQ.go trivial (fun w H => RX.conv rfl (by rw [ki5]; rfl) ki27 (w_u64 rfl (by omega) (by omega))) ?_
      refine JQ.go trivial (fun w H => RX.movev (v := Value.int _ _) rfl) ?_
      refine JQ.go trivial (fun w H => RX.mul rfl rfl (w_i64 rfl (by omega) (by omega))) ?_
      refine JQ.go trivial (fun w H => RX.shl rfl rfl (by omega) (shl8 hi8 (by omega))) ?_
      refine JQ.go trivial (fun w H => RX.or rfl rfl (or8 hi8 hlt (by omega))) ?_
      refine JQ.go trivial (fun w H => RX.assignv (v := Value.int _ _) rfl) ?_
      refine JQ.nil fun w H => ?_
      refine J.inBlock ?_
      refine J.region ?_
      refine JL.go trivial (RX.add rfl rfl (w_i64 rfl (by omega) (by omega))) ?_
      refine JL.go trivial (RX.movev (v := Value.int _ _) rfl) ?_
      refine JL.nil ?_
      exact IH (i + 1) _ _ (by omega) ⟨rfl, rfl, rfl, trivial⟩ ⟨(show Value.int .u64 ((ofLE ((bs.drop at_).take i) + bb.toNat * 256 ^ i : Nat) : Int) = Value.int .u64 (ofLE ((bs.drop at_).take (i + 1)) : Nat) by rw [hnx]), rfl, trivial⟩ ⟨by omega, H⟩
    · skip
      refine J.exit rfl ?_
      refine J.seq ?_
      refine J.region ?_
      refine JL.go trivial (RX.movev (v := Value.pointer _) rfl) ?_
      refine JL.go trivial (RX.nilCheck rfl) ?_
      refine JL.go trivial (RX.fieldAddr rfl fo102_1 rfl) ?_
      refine JL.go trivial (by first | exact RX.load H rfl (i := 0) rfl rfl one3 | exact RX.load H rfl (i := 1) rfl rfl one3) ?_
      refine JL.go trivial (RX.movev (v := Value.int _ _) rfl) ?_
      refine JL.go trivial (RX.add rfl rfl (w_i64 rfl (by omega) (by omega))) ?_
      refine JL.go trivial (RX.nilCheck rfl) ?_
      refine JL.go trivial (RX.fieldAddr rfl fo102_1 rfl) ?_
      refine JL.does trivial (by first | exact EX.store (v := Value.int _ _) H rfl rfl (i := 0) rfl rfl (by simp) sz3 rfl rfl | exact EX.store (v := Value.int _ _) H rfl rfl (i := 1) rfl rfl (by simp) sz3 rfl rfl) ?_
      rintro _ w H
      refine JL.nil ?_
      refine J.seq ?_
      refine J.region ?_
      refine JL.go trivial (RX.movev (v := Value.int _ _) rfl) ?_
      refine JL.go trivial (RX.assignv (v := Value.int _ _) rfl) ?_
      refine JL.go trivial (RX.assign) ?_
      refine JL.nil ?_
      refine J.ret2 (v := Value.int _ _) Tryd.func72 rfl rfl rfl ?_
      have : i = n := by omega
      subst this
      exact ⟨_, rfl, rfl, H⟩
theorem whole_f {w0 w : World} {F : List Seg} {b T c at_ n : Nat} {p : Option Addr} {L : List Seg} {E : Nat → Value} {e : Nat} {g : FuncId} {cv : List Value} {ι : Type} {val : ι → Value} {at2 : ι → Nat} {G : ι → List Seg} {Φ : ι → Prop}
    (H : Hp w0 w ([(b, cel [.slice p n c, .int .i64 (at_ : Nat)] T)] :: L)) (hE : Er F E) (he : e ≤ 19) (hcl : callable Tryd.prog g = true)
    (hc : Ret Tryd.prog g cv w fun v w' => ∃ i, v = .tuple #[val i, errV E e] ∧ Φ i ∧ Hp w0 w' ([(b, cel [.slice p n c, .int .i64 (at2 i : Nat)] T)] :: G i)) :
    Ret Tryd.prog 70 [.pointer (some ⟨b, 0, none⟩), .func (.func g) #[] cv.toArray] w fun v w' => ∃ i, v = .tuple #[if e = 0 then val i else .float .f64 0, errV E e] ∧ Φ i ∧ Hp w0 w' ([(b, cel [.slice p n c, .int .i64 ((if e = 0 then at2 i else at_ : Nat) : Int)] T)] :: G i) := by
  refine Calls.of_J (n := 28) Tryd.func70 rfl rfl rfl ?_
  refine J.seq ?_
  obtain ⟨hie, hnn⟩ := er_ie hE he
  refine J.region ?_
  refine JL.go trivial (RX.assign) ?_
  refine JL.go trivial (RX.assign) ?_
  refine JL.nil ?_
  refine J.seq ?_
  refine J.region ?_
  refine JL.go trivial (RX.movev (v := Value.pointer _) rfl) ?_
  refine JL.go trivial (RX.nilCheck rfl) ?_
  refine JL.go trivial (RX.fieldAddr rfl fo102_1 rfl) ?_
  refine JL.go trivial (by first | exact RX.load H rfl (i := 0) rfl rfl one3) ?_
  refine JL.go trivial (RX.assignv (v := Value.int _ _) rfl) ?_
  refine JL.nil ?_
  refine J.seq ?_
  refine J.region ?_
  refine JL.go trivial (RX.movev (v := Value.func _ _ _) rfl) ?_
  refine JL.does trivial (EX.callv (f := g) (fv := []) (cv := cv) rfl hcl rfl (by simp) hc) ?_
  rintro _ w ⟨i, rfl, hΦ, H⟩
  refine JL.go trivial (RX.movev (v := Value.tuple _) rfl) ?_
  refine JL.go trivial (RX.extract (v := val i) rfl rfl) ?_
  refine JL.go trivial (RX.extract (v := errV E e) rfl rfl) ?_
  refine JL.go trivial (RX.assignv (v := val i) rfl) ?_
  refine JL.go trivial (RX.assignv (v := errV E e) rfl) ?_
  refine JL.nil ?_
  refine J.seq ?_
  refine J.seq ?_
  refine J.region ?_
  refine JL.go trivial (RX.movev (v := errV E e) rfl) ?_
  refine JL.go trivial (RX.ifnil_neq (v := errV E e) rfl rfl hie if40) ?_
  refine JL.nil ?_
  refine J.cond rfl (fun hnz => ?_) (fun hnz => ?_)
  · skip
    have he0 : ¬ e = 0 := by rw [hnn] at hnz; simpa using hnz
    refine J.seq ?_
    refine J.region ?_
    refine JL.go trivial (RX.assign) ?_
    refine JL.nil ?_
    refine J.seq ?_
    refine J.region ?_
    refine JL.go trivial (RX.movev (v := Value.pointer _) rfl) ?_
    refine JL.go trivial (RX.movev (v := Value.int _ _) rfl) ?_
    refine JL.go trivial (RX.nilCheck rfl) ?_
    refine JL.go trivial (RX.fieldAddr rfl fo102_1 rfl) ?_
    refine JL.does trivial (by first | exact EX.store (v := Value.int _ _) H rfl rfl (i := 0) rfl rfl (by simp) sz3 rfl rfl) ?_
    rintro _ w H
    refine JL.nil ?_
    refine J.seq ?_
    refine J.region ?_
    refine JL.go trivial (RX.movev (v := Value.float _ _) rfl) ?_
    refine JL.go trivial (RX.movev (v := errV E e) rfl) ?_
    refine JL.go trivial (RX.assignv (v := Value.float _ _) rfl) ?_
    refine JL.go trivial (RX.assignv (v := errV E e) rfl) ?_
    refine JL.nil ?_
    refine J.ret2 Tryd.func70 rfl rfl rfl ?_
    exact ⟨_, rfl, i, by first | (rw [if_neg he0]; done) | (rw [if_neg he0]; rfl), hΦ, by rw [if_neg he0]; exact H⟩
  · skip
    have he0 : e = 0 := by rw [hnn] at hnz; simpa using hnz
    refine J.skip ?_
    refine J.seq ?_
    refine J.region ?_
    refine JL.go trivial (RX.movev (v := val i) rfl) ?_
    refine JL.go trivial (RX.assignv (v := val i) rfl) ?_
    refine JL.go trivial (RX.assign) ?_
    refine JL.nil ?_
    refine J.ret2 Tryd.func70 rfl rfl rfl ?_
    exact ⟨_, rfl, i, by rw [if_pos he0, he0]; rfl, hΦ, by rw [if_pos he0]; exact H⟩
theorem whole_c {w0 w : World} {F : List Seg} {b T c at_ n : Nat} {p : Option Addr} {L : List Seg} {E : Nat → Value} {e : Nat} {g : FuncId} {cv : List Value} {ι : Type} {val : ι → Value} {at2 : ι → Nat} {G : ι → List Seg} {Φ : ι → Prop}
    (H : Hp w0 w ([(b, cel [.slice p n c, .int .i64 (at_ : Nat)] T)] :: L)) (hE : Er F E) (he : e ≤ 19) (hcl : callable Tryd.prog g = true)
    (hc : Ret Tryd.prog g cv w fun v w' => ∃ i, v = .tuple #[val i, errV E e] ∧ Φ i ∧ Hp w0 w' ([(b, cel [.slice p n c, .int .i64 (at2 i : Nat)] T)] :: G i)) :
    Ret Tryd.prog 76 [.pointer (some ⟨b, 0, none⟩), .func (.func g) #[] cv.toArray] w fun v w' => ∃ i, v = .tuple #[if e = 0 then val i else .complex .f64 0 0, errV E e] ∧ Φ i ∧ Hp w0 w' ([(b, cel [.slice p n c, .int .i64 ((if e = 0 then at2 i else at_ : Nat) : Int)] T)] :: G i) := by
  refine Calls.of_J (n := 28) Tryd.func76 rfl rfl rfl ?_
  refine J.seq ?_
  obtain ⟨hie, hnn⟩ := er_ie hE he
  refine J.region ?_
  refine JL.go trivial (RX.assign) ?_
  refine JL.go trivial (RX.assign) ?_
  refine JL.nil ?_
  refine J.seq ?_
  refine J.region ?_
  refine JL.go trivial (RX.movev (v := Value.pointer _) rfl) ?_
  refine JL.go trivial (RX.nilCheck rfl) ?_
  refine JL.go trivial (RX.fieldAddr rfl fo102_1 rfl) ?_
  refine JL.go trivial (by first | exact RX.load H rfl (i := 0) rfl rfl one3) ?_
  refine JL.go trivial (RX.assignv (v := Value.int _ _) rfl) ?_
  refine JL.nil ?_
  refine J.seq ?_
  refine J.region ?_
  refine JL.go trivial (RX.movev (v := Value.func _ _ _) rfl) ?_
  refine JL.does trivial (EX.callv (f := g) (fv := []) (cv := cv) rfl hcl rfl (by simp) hc) ?_
  rintro _ w ⟨i, rfl, hΦ, H⟩
  refine JL.go trivial (RX.movev (v := Value.tuple _) rfl) ?_
  refine JL.go trivial (RX.extract (v := val i) rfl rfl) ?_
  refine JL.go trivial (RX.extract (v := errV E e) rfl rfl) ?_
  refine JL.go trivial (RX.assignv (v := val i) rfl) ?_
  refine JL.go trivial (RX.assignv (v := errV E e) rfl) ?_
  refine JL.nil ?_
  refine J.seq ?_
  refine J.seq ?_
  refine J.region ?_
  refine JL.go trivial (RX.movev (v := errV E e) rfl) ?_
  refine JL.go trivial (RX.ifnil_neq (v := errV E e) rfl rfl hie if40) ?_
  refine JL.nil ?_
  refine J.cond rfl (fun hnz => ?_) (fun hnz => ?_)
  · skip
    have he0 : ¬ e = 0 := by rw [hnn] at hnz; simpa using hnz
    refine J.seq ?_
    refine J.region ?_
    refine JL.go trivial (RX.assign) ?_
    refine JL.nil ?_
    refine J.seq ?_
    refine J.region ?_
    refine JL.go trivial (RX.movev (v := Value.pointer _) rfl) ?_
    refine JL.go trivial (RX.movev (v := Value.int _ _) rfl) ?_
    refine JL.go trivial (RX.nilCheck rfl) ?_
    refine JL.go trivial (RX.fieldAddr rfl fo102_1 rfl) ?_
    refine JL.does trivial (by first | exact EX.store (v := Value.int _ _) H rfl rfl (i := 0) rfl rfl (by simp) sz3 rfl rfl) ?_
    rintro _ w H
    refine JL.nil ?_
    refine J.seq ?_
    refine J.region ?_
    refine JL.go trivial (RX.movev (v := Value.complex _ _ _) rfl) ?_
    refine JL.go trivial (RX.movev (v := errV E e) rfl) ?_
    refine JL.go trivial (RX.assignv (v := Value.complex _ _ _) rfl) ?_
    refine JL.go trivial (RX.assignv (v := errV E e) rfl) ?_
    refine JL.nil ?_
    refine J.ret2 Tryd.func76 rfl rfl rfl ?_
    exact ⟨_, rfl, i, by first | (rw [if_neg he0]; done) | (rw [if_neg he0]; rfl), hΦ, by rw [if_neg he0]; exact H⟩
  · skip
    have he0 : e = 0 := by rw [hnn] at hnz; simpa using hnz
    refine J.skip ?_
    refine J.seq ?_
    refine J.region ?_
    refine JL.go trivial (RX.movev (v := val i) rfl) ?_
    refine JL.go trivial (RX.assignv (v := val i) rfl) ?_
    refine JL.go trivial (RX.assign) ?_
    refine JL.nil ?_
    refine J.ret2 Tryd.func76 rfl rfl rfl ?_
    exact ⟨_, rfl, i, by rw [if_pos he0, he0]; rfl, hΦ, by rw [if_pos he0]; exact H⟩
theorem whole_n {w0 w : World} {F : List Seg} {b T c at_ n : Nat} {p : Option Addr} {L : List Seg} {E : Nat → Value} {e : Nat} {g : FuncId} {cv : List Value} {ι : Type} {val : ι → Value} {at2 : ι → Nat} {G : ι → List Seg} {Φ : ι → Prop}
    (H : Hp w0 w ([(b, cel [.slice p n c, .int .i64 (at_ : Nat)] T)] :: L)) (hE : Er F E) (he : e ≤ 19) (hcl : callable Tryd.prog g = true)
    (hc : Ret Tryd.prog g cv w fun v w' => ∃ i, v = .tuple #[val i, errV E e] ∧ Φ i ∧ Hp w0 w' ([(b, cel [.slice p n c, .int .i64 (at2 i : Nat)] T)] :: G i)) :
    Ret Tryd.prog 78 [.pointer (some ⟨b, 0, none⟩), .func (.func g) #[] cv.toArray] w fun v w' => ∃ i, v = .tuple #[if e = 0 then val i else .complex .f32 0 0, errV E e] ∧ Φ i ∧ Hp w0 w' ([(b, cel [.slice p n c, .int .i64 ((if e = 0 then at2 i else at_ : Nat) : Int)] T)] :: G i) := by
  refine Calls.of_J (n := 28) Tryd.func78 rfl rfl rfl ?_
  refine J.seq ?_
  obtain ⟨hie, hnn⟩ := er_ie hE he
  refine J.region ?_
  refine JL.go trivial (RX.assign) ?_
  refine JL.go trivial (RX.assign) ?_
  refine JL.nil ?_
  refine J.seq ?_
  refine J.region ?_
  refine JL.go trivial (RX.movev (v := Value.pointer _) rfl) ?_
  refine JL.go trivial (RX.nilCheck rfl) ?_
  refine JL.go trivial (RX.fieldAddr rfl fo102_1 rfl) ?_
  refine JL.go trivial (by first | exact RX.load H rfl (i := 0) rfl rfl one3) ?_
  refine JL.go trivial (RX.assignv (v := Value.int _ _) rfl) ?_
  refine JL.nil ?_
  refine J.seq ?_
  refine J.region ?_
  refine JL.go trivial (RX.movev (v := Value.func _ _ _) rfl) ?_
  refine JL.does trivial (EX.callv (f := g) (fv := []) (cv := cv) rfl hcl rfl (by simp) hc) ?_
  rintro _ w ⟨i, rfl, hΦ, H⟩
  refine JL.go trivial (RX.movev (v := Value.tuple _) rfl) ?_
  refine JL.go trivial (RX.extract (v := val i) rfl rfl) ?_
  refine JL.go trivial (RX.extract (v := errV E e) rfl rfl) ?_
  refine JL.go trivial (RX.assignv (v := val i) rfl) ?_
  refine JL.go trivial (RX.assignv (v := errV E e) rfl) ?_
  refine JL.nil ?_
  refine J.seq ?_
  refine J.seq ?_
  refine J.region ?_
  refine JL.go trivial (RX.movev (v := errV E e) rfl) ?_
  refine JL.go trivial (RX.ifnil_neq (v := errV E e) rfl rfl hie if40) ?_
  refine JL.nil ?_
  refine J.cond rfl (fun hnz => ?_) (fun hnz => ?_)
  · skip
    have he0 : ¬ e = 0 := by rw [hnn] at hnz; simpa using hnz
    refine J.seq ?_
    refine J.region ?_
    refine JL.go trivial (RX.assign) ?_
    refine JL.nil ?_
    refine J.seq ?_
    refine J.region ?_
    refine JL.go trivial (RX.movev (v := Value.pointer _) rfl) ?_
    refine JL.go trivial (RX.movev (v := Value.int _ _) rfl) ?_
    refine JL.go trivial (RX.nilCheck rfl) ?_
    refine JL.go trivial (RX.fieldAddr rfl fo102_1 rfl) ?_
    refine JL.does trivial (by first | exact EX.store (v := Value.int _ _) H rfl rfl (i := 0) rfl rfl (by simp) sz3 rfl rfl) ?_
    rintro _ w H
    refine JL.nil ?_
    refine J.seq ?_
    refine J.region ?_
    refine JL.go trivial (RX.movev (v := Value.complex _ _ _) rfl) ?_
    refine JL.go trivial (RX.movev (v := errV E e) rfl) ?_
    refine JL.go trivial (RX.assignv (v := Value.complex _ _ _) rfl) ?_
    refine JL.go trivial (RX.assignv (v := errV E e) rfl) ?_
    refine JL.nil ?_
    refine J.ret2 Tryd.func78 rfl rfl rfl ?_
    exact ⟨_, rfl, i, by first | (rw [if_neg he0]; done) | (rw [if_neg he0]; rfl), hΦ, by rw [if_neg he0]; exact H⟩
  · skip
    have he0 : e = 0 := by rw [hnn] at hnz; simpa using hnz
    refine J.skip ?_
    refine J.seq ?_
    refine J.region ?_
    refine JL.go trivial (RX.movev (v := val i) rfl) ?_
    refine JL.go trivial (RX.assignv (v := val i) rfl) ?_
    refine JL.go trivial (RX.assign) ?_
    refine JL.nil ?_
    refine J.ret2 Tryd.func78 rfl rfl rfl ?_
    exact ⟨_, rfl, i, by rw [if_pos he0, he0]; rfl, hΦ, by rw [if_pos he0]; exact H⟩
theorem whole_s {w0 w : World} {F : List Seg} {b T c at_ n : Nat} {p : Option Addr} {L : List Seg} {E : Nat → Value} {e : Nat} {g : FuncId} {cv : List Value} {ι : Type} {val : ι → Value} {at2 : ι → Nat} {G : ι → List Seg} {Φ : ι → Prop}
    (H : Hp w0 w ([(b, cel [.slice p n c, .int .i64 (at_ : Nat)] T)] :: L)) (hE : Er F E) (he : e ≤ 19) (hcl : callable Tryd.prog g = true)
    (hc : Ret Tryd.prog g cv w fun v w' => ∃ i, v = .tuple #[val i, errV E e] ∧ Φ i ∧ Hp w0 w' ([(b, cel [.slice p n c, .int .i64 (at2 i : Nat)] T)] :: G i)) :
    Ret Tryd.prog 82 [.pointer (some ⟨b, 0, none⟩), .func (.func g) #[] cv.toArray] w fun v w' => ∃ i, v = .tuple #[if e = 0 then val i else .string ⟨#[]⟩, errV E e] ∧ Φ i ∧ Hp w0 w' ([(b, cel [.slice p n c, .int .i64 ((if e = 0 then at2 i else at_ : Nat) : Int)] T)] :: G i) := by
  refine Calls.of_J (n := 28) Tryd.func82 rfl rfl rfl ?_
  refine J.seq ?_
  obtain ⟨hie, hnn⟩ := er_ie hE he
  refine J.region ?_
  refine JL.go trivial (RX.assign) ?_
  refine JL.go trivial (RX.assign) ?_
  refine JL.nil ?_
  refine J.seq ?_
  refine J.region ?_
  refine JL.go trivial (RX.movev (v := Value.pointer _) rfl) ?_
  refine JL.go trivial (RX.nilCheck rfl) ?_
  refine JL.go trivial (RX.fieldAddr rfl fo102_1 rfl) ?_
  refine JL.go trivial (by first | exact RX.load H rfl (i := 0) rfl rfl one3) ?_
  refine JL.go trivial (RX.assignv (v := Value.int _ _) rfl) ?_
  refine JL.nil ?_
  refine J.seq ?_
  refine J.region ?_
  refine JL.go trivial (RX.movev (v := Value.func _ _ _) rfl) ?_
  refine JL.does trivial (EX.callv (f := g) (fv := []) (cv := cv) rfl hcl rfl (by simp) hc) ?_
  rintro _ w ⟨i, rfl, hΦ, H⟩
  refine JL.go trivial (RX.movev (v := Value.tuple _) rfl) ?_
  refine JL.go trivial (RX.extract (v := val i) rfl rfl) ?_
  refine JL.go trivial (RX.extract (v := errV E e) rfl rfl) ?_
  refine JL.go trivial (RX.assignv (v := val i) rfl) ?_
  refine JL.go trivial (RX.assignv (v := errV E e) rfl) ?_
  refine JL.nil ?_
  refine J.seq ?_
  refine J.seq ?_
  refine J.region ?_
  refine JL.go trivial (RX.movev (v := errV E e) rfl) ?_
  refine JL.go trivial (RX.ifnil_neq (v := errV E e) rfl rfl hie if40) ?_
  refine JL.nil ?_
  refine J.cond rfl (fun hnz => ?_) (fun hnz => ?_)
  · skip
    have he0 : ¬ e = 0 := by rw [hnn] at hnz; simpa using hnz
    refine J.seq ?_
    refine J.region ?_
    refine JL.go trivial (RX.assign) ?_
    refine JL.nil ?_
    refine J.seq ?_
    refine J.region ?_
    refine JL.go trivial (RX.movev (v := Value.pointer _) rfl) ?_
    refine JL.go trivial (RX.movev (v := Value.int _ _) rfl) ?_
    refine JL.go trivial (RX.nilCheck rfl) ?_
    refine JL.go trivial (RX.fieldAddr rfl fo102_1 rfl) ?_
    refine JL.does trivial (by first | exact EX.store (v := Value.int _ _) H rfl rfl (i := 0) rfl rfl (by simp) sz3 rfl rfl) ?_
    rintro _ w H
    refine JL.nil ?_
    refine J.seq ?_
    refine J.region ?_
    refine JL.go trivial (RX.movev (v := Value.string _) rfl) ?_
    refine JL.go trivial (RX.movev (v := errV E e) rfl) ?_
    refine JL.go trivial (RX.assignv (v := Value.string _) rfl) ?_
    refine JL.go trivial (RX.assignv (v := errV E e) rfl) ?_
    refine JL.nil ?_
    refine J.ret2 Tryd.func82 rfl rfl rfl ?_
    exact ⟨_, rfl, i, by first | (rw [if_neg he0]; done) | (rw [if_neg he0]; rfl), hΦ, by rw [if_neg he0]; exact H⟩
  · skip
    have he0 : e = 0 := by rw [hnn] at hnz; simpa using hnz
    refine J.skip ?_
    refine J.seq ?_
    refine J.region ?_
    refine JL.go trivial (RX.movev (v := val i) rfl) ?_
    refine JL.go trivial (RX.assignv (v := val i) rfl) ?_
    refine JL.go trivial (RX.assign) ?_
    refine JL.nil ?_
    refine J.ret2 Tryd.func82 rfl rfl rfl ?_
    exact ⟨_, rfl, i, by rw [if_pos he0, he0]; rfl, hΦ, by rw [if_pos he0]; exact H⟩
theorem whole_lc {w0 w : World} {F : List Seg} {b T c at_ n : Nat} {p : Option Addr} {L : List Seg} {E : Nat → Value} {e : Nat} {g : FuncId} {cv : List Value} {ι : Type} {val : ι → Value} {at2 : ι → Nat} {G : ι → List Seg} {Φ : ι → Prop}
    (H : Hp w0 w ([(b, cel [.slice p n c, .int .i64 (at_ : Nat)] T)] :: L)) (hE : Er F E) (he : e ≤ 19) (hcl : callable Tryd.prog g = true)
    (hc : Ret Tryd.prog g cv w fun v w' => ∃ i, v = .tuple #[val i, errV E e] ∧ Φ i ∧ Hp w0 w' ([(b, cel [.slice p n c, .int .i64 (at2 i : Nat)] T)] :: G i)) :
    Ret Tryd.prog 90 [.pointer (some ⟨b, 0, none⟩), .func (.func g) #[] cv.toArray] w fun v w' => ∃ i, v = .tuple #[if e = 0 then val i else .slice none 0 0, errV E e] ∧ Φ i ∧ Hp w0 w' ([(b, cel [.slice p n c, .int .i64 ((if e = 0 then at2 i else at_ : Nat) : Int)] T)] :: G i) := by
  refine Calls.of_J (n := 28) Tryd.func90 rfl rfl rfl ?_
  refine J.seq ?_
  obtain ⟨hie, hnn⟩ := er_ie hE he
  refine J.region ?_
  refine JL.go trivial (RX.assign) ?_
  refine JL.go trivial (RX.assign) ?_
  refine JL.nil ?_
  refine J.seq ?_
  refine J.region ?_
  refine JL.go trivial (RX.movev (v := Value.pointer _) rfl) ?_
  refine JL.go trivial (RX.nilCheck rfl) ?_
  refine JL.go trivial (RX.fieldAddr rfl fo102_1 rfl) ?_
  refine JL.go trivial (by first | exact RX.load H rfl (i := 0) rfl rfl one3) ?_
  refine JL.go trivial (RX.assignv (v := Value.int _ _) rfl) ?_
  refine JL.nil ?_
  refine J.seq ?_
  refine J.region ?_
  refine JL.go trivial (RX.movev (v := Value.func _ _ _) rfl) ?_
  refine JL.does trivial (EX.callv (f := g) (fv := []) (cv := cv) rfl hcl rfl (by simp) hc) ?_
  rintro _ w ⟨i, rfl, hΦ, H⟩
  refine JL.go trivial (RX.movev (v := Value.tuple _) rfl) ?_
  refine JL.go trivial (RX.extract (v := val i) rfl rfl) ?_
  refine JL.go trivial (RX.extract (v := errV E e) rfl rfl) ?_
  refine JL.go trivial (RX.assignv (v := val i) rfl) ?_
  refine JL.go trivial (RX.assignv (v := errV E e) rfl) ?_
  refine JL.nil ?_
  refine J.seq ?_
  refine J.seq ?_
  refine J.region ?_
  refine JL.go trivial (RX.movev (v := errV E e) rfl) ?_
  refine JL.go trivial (RX.ifnil_neq (v := errV E e) rfl rfl hie if40) ?_
  refine JL.nil ?_
  refine J.cond rfl (fun hnz => ?_) (fun hnz => ?_)
  · skip
    have he0 : ¬ e = 0 := by rw [hnn] at hnz; simpa using hnz
    refine J.seq ?_
    refine J.region ?_
    refine JL.go trivial (RX.assign) ?_
    refine JL.nil ?_
    refine J.seq ?_
    refine J.region ?_
    refine JL.go trivial (RX.movev (v := Value.pointer _) rfl) ?_
    refine JL.go trivial (RX.movev (v := Value.int _ _) rfl) ?_
    refine JL.go trivial (RX.nilCheck rfl) ?_
    refine JL.go trivial (RX.fieldAddr rfl fo102_1 rfl) ?_
    refine JL.does trivial (by first | exact EX.store (v := Value.int _ _) H rfl rfl (i := 0) rfl rfl (by simp) sz3 rfl rfl) ?_
    rintro _ w H
    refine JL.nil ?_
    refine J.seq ?_
    refine J.region ?_
    refine JL.go trivial (RX.movev (v := Value.slice _ _ _) rfl) ?_
    refine JL.go trivial (RX.movev (v := errV E e) rfl) ?_
    refine JL.go trivial (RX.assignv (v := Value.slice _ _ _) rfl) ?_
    refine JL.go trivial (RX.assignv (v := errV E e) rfl) ?_
    refine JL.nil ?_
    refine J.ret2 Tryd.func90 rfl rfl rfl ?_
    exact ⟨_, rfl, i, by first | (rw [if_neg he0]; done) | (rw [if_neg he0]; rfl), hΦ, by rw [if_neg he0]; exact H⟩
  · skip
    have he0 : e = 0 := by rw [hnn] at hnz; simpa using hnz
    refine J.skip ?_
    refine J.seq ?_
    refine J.region ?_
    refine JL.go trivial (RX.movev (v := val i) rfl) ?_
    refine JL.go trivial (RX.assignv (v := val i) rfl) ?_
    refine JL.go trivial (RX.assign) ?_
    refine JL.nil ?_
    refine J.ret2 Tryd.func90 rfl rfl rfl ?_
    exact ⟨_, rfl, i, by rw [if_pos he0, he0]; rfl, hΦ, by rw [if_pos he0]; exact H⟩
theorem whole_lf {w0 w : World} {F : List Seg} {b T c at_ n : Nat} {p : Option Addr} {L : List Seg} {E : Nat → Value} {e : Nat} {g : FuncId} {cv : List Value} {ι : Type} {val : ι → Value} {at2 : ι → Nat} {G : ι → List Seg} {Φ : ι → Prop}
    (H : Hp w0 w ([(b, cel [.slice p n c, .int .i64 (at_ : Nat)] T)] :: L)) (hE : Er F E) (he : e ≤ 19) (hcl : callable Tryd.prog g = true)
    (hc : Ret Tryd.prog g cv w fun v w' => ∃ i, v = .tuple #[val i, errV E e] ∧ Φ i ∧ Hp w0 w' ([(b, cel [.slice p n c, .int .i64 (at2 i : Nat)] T)] :: G i)) :
    Ret Tryd.prog 100 [.pointer (some ⟨b, 0, none⟩), .func (.func g) #[] cv.toArray] w fun v w' => ∃ i, v = .tuple #[if e = 0 then val i else .slice none 0 0, errV E e] ∧ Φ i ∧ Hp w0 w' ([(b, cel [.slice p n c, .int .i64 ((if e = 0 then at2 i else at_ : Nat) : Int)] T)] :: G i) := by
  refine Calls.of_J (n := 28) Tryd.func100 rfl rfl rfl ?_
  refine J.seq ?_
  obtain ⟨hie, hnn⟩ := er_ie hE he
  refine J.region ?_
  refine JL.go trivial (RX.assign) ?_
  refine JL.go trivial (RX.assign) ?_
  refine JL.nil ?_
  refine J.seq ?_
  refine J.region ?_
  refine JL.go trivial (RX.movev (v := Value.pointer _) rfl) ?_
  refine JL.go trivial (RX.nilCheck rfl) ?_
  refine JL.go trivial (RX.fieldAddr rfl fo102_1 rfl) ?_
  refine JL.go trivial (by first | exact RX.load H rfl (i := 0) rfl rfl one3) ?_
  refine JL.go trivial (RX.assignv (v := Value.int _ _) rfl) ?_
  refine JL.nil ?_
  refine J.seq ?_
  refine J.region ?_
  refine JL.go trivial (RX.movev (v := Value.func _ _ _) rfl) ?_
  refine JL.does trivial (EX.callv (f := g) (fv := []) (cv := cv) rfl hcl rfl (by simp) hc) ?_
  rintro _ w ⟨i, rfl, hΦ, H⟩
  refine JL.go trivial (RX.movev (v := Value.tuple _) rfl) ?_
  refine JL.go trivial (RX.extract (v := val i) rfl rfl) ?_
  refine JL.go trivial (RX.extract (v := errV E e) rfl rfl) ?_
  refine JL.go trivial (RX.assignv (v := val i) rfl) ?_
  refine JL.go trivial (RX.assignv (v := errV E e) rfl) ?_
  refine JL.nil ?_
  refine J.seq ?_
  refine J.seq ?_
  refine J.region ?_
  refine JL.go trivial (RX.movev (v := errV E e) rfl) ?_
  refine JL.go trivial (RX.ifnil_neq (v := errV E e) rfl rfl hie if40) ?_
  refine JL.nil ?_
  refine J.cond rfl (fun hnz => ?_) (fun hnz => ?_)
  · skip
    have he0 : ¬ e = 0 := by rw [hnn] at hnz; simpa using hnz
    refine J.seq ?_
    refine J.region ?_
    refine JL.go trivial (RX.assign) ?_
    refine JL.nil ?_
    refine J.seq ?_
    refine J.region ?_
    refine JL.go trivial (RX.movev (v := Value.pointer _) rfl) ?_
    refine JL.go trivial (RX.movev (v := Value.int _ _) rfl) ?_
    refine JL.go trivial (RX.nilCheck rfl) ?_
    refine JL.go trivial (RX.fieldAddr rfl fo102_1 rfl) ?_
    refine JL.does trivial (by first | exact EX.store (v := Value.int _ _) H rfl rfl (i := 0) rfl rfl (by simp) sz3 rfl rfl) ?_
    rintro _ w H
    refine JL.nil ?_
    refine J.seq ?_
    refine J.region ?_
    refine JL.go trivial (RX.movev (v := Value.slice _ _ _) rfl) ?_
    refine JL.go trivial (RX.movev (v := errV E e) rfl) ?_
    refine JL.go trivial (RX.assignv (v := Value.slice _ _ _) rfl) ?_
    refine JL.go trivial (RX.assignv (v := errV E e) rfl) ?_
    refine JL.nil ?_
    refine J.ret2 Tryd.func100 rfl rfl rfl ?_
    exact ⟨_, rfl, i, by first | (rw [if_neg he0]; done) | (rw [if_neg he0]; rfl), hΦ, by rw [if_neg he0]; exact H⟩
  · skip
    have he0 : e = 0 := by rw [hnn] at hnz; simpa using hnz
    refine J.skip ?_
    refine J.seq ?_
    refine J.region ?_
    refine JL.go trivial (RX.movev (v := val i) rfl) ?_
    refine JL.go trivial (RX.assignv (v := val i) rfl) ?_
    refine JL.go trivial (RX.assign) ?_
    refine JL.nil ?_
    refine J.ret2 Tryd.func100 rfl rfl rfl ?_
    exact ⟨_, rfl, i, by rw [if_pos he0, he0]; rfl, hΦ, by rw [if_pos he0]; exact H⟩
theorem rLow_facts {n : Nat} {l : List UInt8} : ((rLow n l).code = 0 → n ≤ l.length ∧ (rLow n l).val 0 = ofLE (l.take n) ∧ (rLow n l).k = n) ∧ (¬ (rLow n l).code = 0 → l.length < n ∧ (rLow n l).code = 1 ∧ (rLow n l).val 0 = 0) := by
  have hg := rLow_good n l
  refine ⟨fun h0 => ?_, fun h0 => ?_⟩
  · obtain ⟨x, k, h1, h2⟩ := hg.1.of_ok h0
    have h3 := hg.2 _ _ h1
    rw [h1]
    exact ⟨h3.2.2.1, h3.1, h3.2.1⟩
  · unfold rLow at h0 ⊢
    split at h0
    · rename_i h; rw [if_pos h]; exact ⟨h, rfl, rfl⟩
    · exact absurd rfl h0
theorem rFl_le {l : List UInt8} : ((rFl l).val 0) ≤ 18446744073709551615 := by
  cases hr : rFl l with
  | ok x k => exact ((rFl_good l).2 x k hr).2.2.2.2
  | err e => exact Nat.zero_le _
theorem Float_cl {w0 w : World} {F : List Seg} {b T c at_ : Nat} {p : Option Addr} {s : Seg} {bs : List UInt8} {E : Nat → Value} {br : Nat} (H : Hp w0 w ([(br, cel [.pointer (some ⟨b, 0, none⟩)] 42)] :: [(b, cel [.slice p bs.length c, .int .i64 (at_ : Nat)] T)] :: s :: F)) (ho : OwnSl 5 1 p bs.length c (bv bs) s) (hat : at_ ≤ bs.length) (hl : bs.length ≤ 1099511627776) (hE : Er F E) : Ret Tryd.prog 71 [.pointer (some ⟨br, 0, none⟩)] w fun v w' => ∃ i : Nat × Nat, v = .tuple #[.float .f64 i.1, errV E (rFl (bs.drop at_)).code] ∧ ((rFl (bs.drop at_)).code = 0 → i.1 = (rFl (bs.drop at_)).val 0 ∧ i.2 = at_ + (rFl (bs.drop at_)).k) ∧ Hp w0 w' ([(b, cel [.slice p bs.length c, .int .i64 (i.2 : Nat)] T)] :: s :: [(br, cel [.pointer (some ⟨b, 0, none⟩)] 42)] :: F) := by
  refine Calls.of_J (n := 24) Tryd.func71 rfl rfl rfl ?_
  refine J.seq ?_
  refine J.region ?_
  refine JL.go trivial (RX.assign) ?_
  refine JL.go trivial (RX.assign) ?_
  refine JL.nil ?_
  refine J.seq ?_
  refine J.region ?_
  refine JL.go trivial (by first | exact RX.load H rfl (i := 0) rfl rfl one42 | exact RX.load H rfl (i := 1) rfl rfl one42 | exact RX.load H rfl (i := 2) rfl rfl one42) ?_
  refine JL.does trivial (EX.call rfl cl72 rfl ((rlow_c ((H.pull 2 rfl).pull 2 rfl) ho hat hl hE.cons (n := 8) (by decide)))) ?_
  rintro _ w ⟨rfl, H⟩
  have hie := er_ie hE (n := (rLow 8 (bs.drop at_)).code) (rLow_good _ _).1.code
  obtain ⟨hcc, hce⟩ := rLow_facts (n := 8) (l := bs.drop at_)
  generalize (rLow 8 (bs.drop at_)).code = e at hie hcc hce H ⊢
  generalize (rLow 8 (bs.drop at_)).val 0 = x at hcc hce H ⊢
  generalize (rLow 8 (bs.drop at_)).k = k at hcc H ⊢
  refine JL.go trivial (RX.movev (v := Value.tuple _) rfl) ?_
  refine JL.go trivial (RX.extract rfl rfl) ?_
  refine JL.go trivial (RX.extract (v := errV E e) rfl rfl) ?_
  refine JL.go trivial (RX.assignv (v := Value.int _ _) rfl) ?_
  refine JL.go trivial (RX.assignv (v := errV E e) rfl) ?_
  refine JL.nil ?_
  refine J.seq ?_
  refine J.region ?_
  refine JL.go trivial (RX.movev (v := Value.int _ _) rfl) ?_
  refine JL.go trivial (RX.ext ext73 rfl rfl (v := Value.float _ _) rfl) ?_
  refine JL.go trivial (RX.assignv (v := Value.float _ _) rfl) ?_
  refine JL.nil ?_
  refine J.seq ?_
  refine J.seq ?_
  refine J.region ?_
  refine JL.go trivial (RX.movev (v := errV E e) rfl) ?_
  refine JL.go trivial (RX.ifnil_eql (v := errV E e) rfl rfl hie.1 if40) ?_
  refine JL.go trivial (RX.movev (v := Value.bool _) rfl) ?_
  refine JL.splitS 15 rfl (fun hz => ?_) (fun hz => ?_)
  · skip
    first | have hzp := of_decide_eq_true hz | skip
    have hz0 : e = 0 := by rw [hie.2] at hz; exact of_decide_eq_true hz
    have h8 := hcc hz0
    refine JL.go ⟨_, rfl, hz⟩ (RX.movev (v := Value.float _ _) rfl) ?_
    refine JL.does ⟨_, rfl, hz⟩ (EX.call rfl cl74 rfl ((bits_b H))) ?_
    rintro _ w ⟨rfl, H⟩
    refine JL.go ⟨_, rfl, hz⟩ (RX.movev (v := Value.int _ _) rfl) ?_
    refine JL.go ⟨_, rfl, hz⟩ (RX.ne rfl rfl) ?_
    refine JL.go trivial (RX.pick_t rfl hz) ?_
    refine JL.nil ?_
    refine J.cond_d rfl (fun hnc => ?_) (fun hnc => ?_)
    · skip
      simp only [Int.toNat_natCast] at hnc
      refine J.region ?_
      refine JL.go trivial (RX.loadG H rfl hE.g13.at_.cons.cons.cons one40) ?_
      refine JL.go trivial (RX.assign) ?_
      refine JL.nil ?_
      refine J.seq ?_
      refine J.region ?_
      refine JL.go trivial (RX.movev (v := Value.float _ _) rfl) ?_
      refine JL.go trivial (RX.move) ?_
      refine JL.go trivial (RX.assignv (v := Value.float _ _) rfl) ?_
      refine JL.go trivial (RX.assign) ?_
      refine JL.nil ?_
      refine J.ret2 (v := Value.float _ _) Tryd.func71 rfl rfl rfl ?_
      have hf : rFl (bs.drop at_) = .err 13 := by rw [rFl, if_neg (by omega), if_neg (by rw [← h8.2.1]; omega)]
      rw [hf]
      exact ⟨_, rfl, (x, at_ + k), by rw [show errV E (Rs.err (α := Nat) 13).code = E 13 from errV_pos (by decide)]; rfl, fun h => (by cases h), H⟩
    · skip
      simp only [Int.toNat_natCast] at hnc
      refine J.skip ?_
      refine J.seq ?_
      refine J.region ?_
      refine JL.go trivial (RX.movev (v := Value.float _ _) rfl) ?_
      refine JL.go trivial (RX.move) ?_
      refine JL.go trivial (RX.assignv (v := Value.float _ _) rfl) ?_
      refine JL.go trivial (RX.assign) ?_
      refine JL.nil ?_
      refine J.ret2 (v := Value.float _ _) Tryd.func71 rfl rfl rfl ?_
      have hf : rFl (bs.drop at_) = .ok x 8 := by rw [rFl, if_neg (by omega), if_pos (by rw [← h8.2.1]; omega), h8.2.1]
      rw [hf]
      exact ⟨_, rfl, (x, at_ + k), by rw [hz0]; rfl, fun _ => ⟨rfl, by rw [h8.2.2]; rfl⟩, H⟩
  · skip
    first | have hzp := of_decide_eq_false hz | skip
    have hz0 : ¬ e = 0 := by rw [hie.2] at hz; exact of_decide_eq_false hz
    have h8 := hce hz0
    refine JL.no ⟨_, rfl, gno hz⟩ ?_
    refine JL.no ⟨_, rfl, gno hz⟩ ?_
    refine JL.no ⟨_, rfl, gno hz⟩ ?_
    refine JL.no ⟨_, rfl, gno hz⟩ ?_
    refine JL.go trivial (RX.pick_f rfl hz) ?_
    refine JL.nil ?_
    refine J.cond_f rfl rfl ?_
    refine J.skip ?_
    refine J.seq ?_
    refine J.region ?_
    refine JL.go trivial (RX.movev (v := Value.float _ _) rfl) ?_
    refine JL.go trivial (RX.move) ?_
    refine JL.go trivial (RX.assignv (v := Value.float _ _) rfl) ?_
    refine JL.go trivial (RX.assign) ?_
    refine JL.nil ?_
    refine J.ret2 (v := Value.float _ _) Tryd.func71 rfl rfl rfl ?_
    have hf : rFl (bs.drop at_) = .err 1 := by rw [rFl, if_pos h8.1]
    rw [hf]
    exact ⟨_, rfl, (x, at_ + k), by rw [h8.2.1]; rfl, fun h => (by cases h), H⟩
theorem rFloat_c {w0 w : World} {F : List Seg} {b T c at_ : Nat} {p : Option Addr} {s : Seg} {bs : List UInt8} {E : Nat → Value} (H : Hp w0 w ([(b, cel [.slice p bs.length c, .int .i64 (at_ : Nat)] T)] :: s :: F)) (ho : OwnSl 5 1 p bs.length c (bv bs) s) (hat : at_ ≤ bs.length) (hl : bs.length ≤ 1099511627776) (hE : Er F E) : Ret Tryd.prog 28 [.pointer (some ⟨b, 0, none⟩)] w (fun v w' => v = .tuple #[.float .f64 ((rFl (bs.drop at_)).val 0), errV E (rFl (bs.drop at_)).code] ∧ Hp w0 w' ([(b, cel [.slice p bs.length c, .int .i64 (at_ + (rFl (bs.drop at_)).k : Nat)] T)] :: s :: F)) := by
  refine Calls.of_J (n := 9) Tryd.func28 rfl rfl rfl ?_
  refine J.seq ?_
  refine J.region ?_
  refine JL.does trivial (EX.box (v := Value.pointer _) H rfl rfl) ?_
  rintro _ w ⟨br, rfl, H⟩
  refine JL.go trivial (RX.assign) ?_
  refine JL.go trivial (RX.assign) ?_
  refine JL.nil ?_
  refine J.seq ?_
  refine J.region ?_
  refine JL.go trivial (by first | exact RX.load H rfl (i := 0) rfl rfl one42 | exact RX.load H rfl (i := 1) rfl rfl one42 | exact RX.load H rfl (i := 2) rfl rfl one42) ?_
  refine JL.go trivial (RX.makeFunc rfl rfl) ?_
  refine JL.does trivial (EX.call rfl cl70 rfl ((whole_f (g := 71) (cv := [.pointer (some ⟨br, 0, none⟩)]) (val := fun i : Nat × Nat => Value.float .f64 i.1) (at2 := fun i => i.2) (G := fun _ => s :: [(br, cel [.pointer (some ⟨b, 0, none⟩)] 42)] :: F) (Φ := fun i => (rFl (bs.drop at_)).code = 0 → i.1 = (rFl (bs.drop at_)).val 0 ∧ i.2 = at_ + (rFl (bs.drop at_)).k) (H.pull 1 rfl) hE (rFl_g _).code cl71 (Float_cl H ho hat hl hE)))) ?_
  rintro _ w ⟨i, rfl, hi, H⟩
  have hval : (if (rFl (bs.drop at_)).code = 0 then Value.float .f64 i.1 else .float .f64 0) = .float .f64 ((rFl (bs.drop at_)).val 0) ∧ (if (rFl (bs.drop at_)).code = 0 then i.2 else at_) = at_ + (rFl (bs.drop at_)).k := by
    by_cases h0 : (rFl (bs.drop at_)).code = 0
    · rw [if_pos h0, if_pos h0, (hi h0).1]; exact ⟨rfl, (hi h0).2⟩
    · obtain ⟨e, he, _⟩ := (rFl_g _).of_err h0
      rw [if_neg h0, if_neg h0, he]; exact ⟨rfl, rfl⟩
  rw [hval.2] at H
  rw [hval.1]
  refine JL.go trivial (RX.extract rfl rfl) ?_
  refine JL.go trivial (RX.extract (v := errV E (rFl (bs.drop at_)).code) rfl rfl) ?_
  refine JL.go trivial (RX.assignv (v := Value.float _ _) rfl) ?_
  refine JL.go trivial (RX.assign) ?_
  refine JL.nil ?_
  refine J.ret2 (v := Value.float _ _) Tryd.func28 rfl rfl rfl ?_
  exact ⟨_, rfl, rfl, (H.pull 2 rfl).drop⟩
theorem pair2_short {α : Type} {n w : Nat} {one : List UInt8 → Rs α} {l : List UInt8} (h : l.length < n) : pair2 n w one l = .err 1 := by rw [pair2, if_pos h]
theorem pair2_e1 {α : Type} {n w e : Nat} {one : List UInt8 → Rs α} {l : List UInt8} (h : ¬ l.length < n) (h1 : one l = .err e) : pair2 n w one l = .err e := by rw [pair2, if_neg h, h1]
theorem pair2_e2 {α : Type} {n w e k : Nat} {a : α} {one : List UInt8 → Rs α} {l : List UInt8} (h : ¬ l.length < n) (h1 : one l = .ok a k) (h2 : one (l.drop w) = .err e) : pair2 n w one l = .err e := by simp only [pair2, if_neg h, h1, h2]
theorem pair2_ok {α : Type} {n w k k2 : Nat} {a b : α} {one : List UInt8 → Rs α} {l : List UInt8} (h : ¬ l.length < n) (h1 : one l = .ok a k) (h2 : one (l.drop w) = .ok b k2) : pair2 n w one l = .ok (a, b) n := by simp only [pair2, if_neg h, h1, h2]
theorem lo32_lt {x : Nat} (h : x < 4294967296) : lo32 x = x := Nat.mod_eq_of_lt h
theorem rFloat_i {w0 w : World} {F : List Seg} {b T c at_ : Nat} {p : Option Addr} {s : Seg} {bs : List UInt8} {E : Nat → Value} (H : Hp w0 w ([(b, cel [.slice p bs.length c, .int .i64 (at_ : Nat)] T)] :: s :: F)) (ho : OwnSl 5 1 p bs.length c (bv bs) s) (hat : at_ ≤ bs.length) (hl : bs.length ≤ 1099511627776) (hE : Er F E) : Ret Tryd.prog 28 [.pointer (some ⟨b, 0, none⟩)] w (fun v w' => ∃ i : Nat × Nat, v = .tuple #[.float .f64 i.1, errV E (rFl (bs.drop at_)).code] ∧ ((rFl (bs.drop at_)).code = 0 → i.1 = (rFl (bs.drop at_)).val 0 ∧ i.2 = at_ + (rFl (bs.drop at_)).k) ∧ Hp w0 w' ([(b, cel [.slice p bs.length c, .int .i64 (i.2 : Nat)] T)] :: s :: F)) := (rFloat_c H ho hat hl hE).mono fun v w' h => ⟨(_, _), h.1, fun _ => ⟨rfl, rfl⟩, h.2⟩
theorem narrow_i {w0 w : World} {F : List Seg} {b T c at_ : Nat} {p : Option Addr} {s : Seg} {bs : List UInt8} {E : Nat → Value} (H : Hp w0 w ([(b, cel [.slice p bs.length c, .int .i64 (at_ : Nat)] T)] :: s :: F)) (ho : OwnSl 5 1 p bs.length c (bv bs) s) (hat : at_ ≤ bs.length) (hl : bs.length ≤ 1099511627776) (hE : Er F E) : Ret Tryd.prog 80 [.pointer (some ⟨b, 0, none⟩)] w (fun v w' => ∃ i : Nat × Nat, v = .tuple #[.float .f32 i.1, errV E (rF32 (bs.drop at_)).code] ∧ ((rF32 (bs.drop at_)).code = 0 → i.1 = (rF32 (bs.drop at_)).val 0 ∧ i.2 = at_ + (rF32 (bs.drop at_)).k) ∧ Hp w0 w' ([(b, cel [.slice p bs.length c, .int .i64 (i.2 : Nat)] T)] :: s :: F)) := by
  refine Calls.of_J (n := 29) Tryd.func80 rfl rfl rfl ?_
  refine J.seq ?_
  refine J.region ?_
  refine JL.go trivial (RX.assign) ?_
  refine JL.go trivial (RX.assign) ?_
  refine JL.nil ?_
  refine J.seq ?_
  refine J.region ?_
  refine JL.go trivial (RX.movev (v := Value.pointer _) rfl) ?_
  refine JL.does trivial (EX.call rfl cl72 rfl ((rlow_c H ho hat hl hE (n := 4) (by decide)))) ?_
  rintro _ w ⟨rfl, H⟩
  have hie := er_ie hE (n := (rLow 4 (bs.drop at_)).code) (rLow_good _ _).1.code
  obtain ⟨hcc, hce⟩ := rLow_facts (n := 4) (l := bs.drop at_)
  generalize (rLow 4 (bs.drop at_)).code = e at hie hcc hce H ⊢
  generalize (rLow 4 (bs.drop at_)).val 0 = x at hcc hce H ⊢
  generalize (rLow 4 (bs.drop at_)).k = k at hcc H ⊢
  refine JL.go trivial (RX.movev (v := Value.tuple _) rfl) ?_
  refine JL.go trivial (RX.extract rfl rfl) ?_
  refine JL.go trivial (RX.extract (v := errV E e) rfl rfl) ?_
  refine JL.go trivial (RX.assignv (v := Value.int _ _) rfl) ?_
  refine JL.go trivial (RX.assignv (v := errV E e) rfl) ?_
  refine JL.nil ?_
  refine J.seq ?_
  refine J.region ?_
  refine JL.go trivial (RX.movev (v := Value.int _ _) rfl) ?_
  refine JL.go trivial (RX.conv rfl (by rw [ki27]; rfl) ki140 lo32_run) ?_
  refine JL.go trivial (RX.ext ext88 rfl rfl (v := Value.float _ _) rfl) ?_
  refine JL.go trivial (RX.assignv (v := Value.float _ _) rfl) ?_
  refine JL.nil ?_
  refine J.seq ?_
  refine J.seq ?_
  refine J.region ?_
  refine JL.go trivial (RX.movev (v := errV E e) rfl) ?_
  refine JL.go trivial (RX.ifnil_eql (v := errV E e) rfl rfl hie.1 if40) ?_
  refine JL.go trivial (RX.movev (v := Value.bool _) rfl) ?_
  refine JL.splitS 17 rfl (fun hz => ?_) (fun hz => ?_)
  · skip
    first | have hzp := of_decide_eq_true hz | skip
    have hz0 : e = 0 := by rw [hie.2] at hz; exact of_decide_eq_true hz
    have h8 := hcc hz0
    have hx4 := ofLE_lt ((bs.drop at_).take 4)
    rw [List.length_take, Nat.min_eq_left (by omega)] at hx4
    have hlo : lo32 x = x := lo32_lt (by omega)
    refine JL.go ⟨_, rfl, hz⟩ (RX.movev (v := Value.float _ _) rfl) ?_
    refine JL.go ⟨_, rfl, hz⟩ (RX.movev (v := Value.float _ _) rfl) ?_
    refine JL.go ⟨_, rfl, hz⟩ (nan32 rfl rfl) ?_
    refine JL.go trivial (RX.pick_t rfl hz) ?_
    refine JL.go trivial (RX.movev (v := Value.bool _) rfl) ?_
    refine JL.splitS 22 rfl (fun hnn => ?_) (fun hnn => ?_)
    · skip
      first | have hnnp := of_decide_eq_true hnn | skip
      have hnp := of_decide_eq_true hnn
      simp only [Int.toNat_natCast] at hnp
      refine JL.go ⟨_, rfl, hnn⟩ (RX.movev (v := Value.int _ _) rfl) ?_
      refine JL.go ⟨_, rfl, hnn⟩ (RX.ne rfl rfl) ?_
      refine JL.go trivial (RX.pick_t rfl hnn) ?_
      refine JL.nil ?_
      refine J.cond_d rfl (fun hnc => ?_) (fun hnc => ?_)
      · skip
        refine J.region ?_
        refine JL.go trivial (RX.loadG H rfl hE.g13.at_.cons.cons one40) ?_
        refine JL.go trivial (RX.assign) ?_
        refine JL.nil ?_
        refine J.seq ?_
        refine J.region ?_
        refine JL.go trivial (RX.movev (v := Value.float _ _) rfl) ?_
        refine JL.go trivial (RX.move) ?_
        refine JL.go trivial (RX.assignv (v := Value.float _ _) rfl) ?_
        refine JL.go trivial (RX.assign) ?_
        refine JL.nil ?_
        refine J.ret2 (v := Value.float _ _) Tryd.func80 rfl rfl rfl ?_
        first
        | (have hf : rF32 (bs.drop at_) = .err 13 := by
            rw [rF32, if_neg (by omega), ← h8.2.1, if_neg (by unfold canon32; rw [hlo] at hnp; rw [if_pos hnp]; omega)]
           rw [hf]
           exact ⟨_, rfl, (lo32 x, at_ + k), by rw [show errV E (Rs.err (α := Nat) 13).code = E 13 from errV_pos (by decide)]; rfl, fun h => (by cases h), H⟩)
        | (have hf : rF32 (bs.drop at_) = .ok x 4 := by
            rw [rF32, if_neg (by omega), ← h8.2.1, if_pos (by unfold canon32; rw [hlo] at hnp; split <;> omega)]
           rw [hf]
           exact ⟨_, rfl, (lo32 x, at_ + k), by rw [hz0]; rfl, fun _ => ⟨hlo, by rw [h8.2.2]; rfl⟩, H⟩)
        | (have hf : rF32 (bs.drop at_) = .err 1 := by rw [rF32, if_pos h8.1]
           rw [hf]
           exact ⟨_, rfl, (lo32 x, at_ + k), by rw [h8.2.1]; rfl, fun h => (by cases h), H⟩)
      · skip
        refine J.skip ?_
        refine J.seq ?_
        refine J.region ?_
        refine JL.go trivial (RX.movev (v := Value.float _ _) rfl) ?_
        refine JL.go trivial (RX.move) ?_
        refine JL.go trivial (RX.assignv (v := Value.float _ _) rfl) ?_
        refine JL.go trivial (RX.assign) ?_
        refine JL.nil ?_
        refine J.ret2 (v := Value.float _ _) Tryd.func80 rfl rfl rfl ?_
        first
        | (have hf : rF32 (bs.drop at_) = .err 13 := by
            rw [rF32, if_neg (by omega), ← h8.2.1, if_neg (by unfold canon32; rw [hlo] at hnp; rw [if_pos hnp]; omega)]
           rw [hf]
           exact ⟨_, rfl, (lo32 x, at_ + k), by rw [show errV E (Rs.err (α := Nat) 13).code = E 13 from errV_pos (by decide)]; rfl, fun h => (by cases h), H⟩)
        | (have hf : rF32 (bs.drop at_) = .ok x 4 := by
            rw [rF32, if_neg (by omega), ← h8.2.1, if_pos (by unfold canon32; rw [hlo] at hnp; split <;> omega)]
           rw [hf]
           exact ⟨_, rfl, (lo32 x, at_ + k), by rw [hz0]; rfl, fun _ => ⟨hlo, by rw [h8.2.2]; rfl⟩, H⟩)
        | (have hf : rF32 (bs.drop at_) = .err 1 := by rw [rF32, if_pos h8.1]
           rw [hf]
           exact ⟨_, rfl, (lo32 x, at_ + k), by rw [h8.2.1]; rfl, fun h => (by cases h), H⟩)
    · skip
      first | have hnnp := of_decide_eq_false hnn | skip
      have hnp := of_decide_eq_false hnn
      simp only [Int.toNat_natCast] at hnp
      refine JL.no ⟨_, rfl, gno hnn⟩ ?_
      refine JL.no ⟨_, rfl, gno hnn⟩ ?_
      refine JL.go trivial (RX.pick_f rfl hnn) ?_
      refine JL.nil ?_
      refine J.cond_f rfl rfl ?_
      refine J.skip ?_
      refine J.seq ?_
      refine J.region ?_
      refine JL.go trivial (RX.movev (v := Value.float _ _) rfl) ?_
      refine JL.go trivial (RX.move) ?_
      refine JL.go trivial (RX.assignv (v := Value.float _ _) rfl) ?_
      refine JL.go trivial (RX.assign) ?_
      refine JL.nil ?_
      refine J.ret2 (v := Value.float _ _) Tryd.func80 rfl rfl rfl ?_
      first
      | (have hf : rF32 (bs.drop at_) = .err 13 := by
          rw [rF32, if_neg (by omega), ← h8.2.1, if_neg (by unfold canon32; rw [hlo] at hnp; rw [if_pos hnp]; omega)]
         rw [hf]
         exact ⟨_, rfl, (lo32 x, at_ + k), by rw [show errV E (Rs.err (α := Nat) 13).code = E 13 from errV_pos (by decide)]; rfl, fun h => (by cases h), H⟩)
      | (have hf : rF32 (bs.drop at_) = .ok x 4 := by
          rw [rF32, if_neg (by omega), ← h8.2.1, if_pos (by unfold canon32; rw [hlo] at hnp; split <;> omega)]
         rw [hf]
         exact ⟨_, rfl, (lo32 x, at_ + k), by rw [hz0]; rfl, fun _ => ⟨hlo, by rw [h8.2.2]; rfl⟩, H⟩)
      | (have hf : rF32 (bs.drop at_) = .err 1 := by rw [rF32, if_pos h8.1]
         rw [hf]
         exact ⟨_, rfl, (lo32 x, at_ + k), by rw [h8.2.1]; rfl, fun h => (by cases h), H⟩)
  · skip
    first | have hzp := of_decide_eq_false hz | skip
    have hz0 : ¬ e = 0 := by rw [hie.2] at hz; exact of_decide_eq_false hz
    have h8 := hce hz0
    refine JL.no ⟨_, rfl, gno hz⟩ ?_
    refine JL.no ⟨_, rfl, gno hz⟩ ?_
    refine JL.no ⟨_, rfl, gno hz⟩ ?_
    refine JL.go trivial (RX.pick_f rfl hz) ?_
    refine JL.go trivial (RX.movev (v := Value.bool _) rfl) ?_
    refine JL.no ⟨_, rfl, gno rfl⟩ ?_
    refine JL.no ⟨_, rfl, gno rfl⟩ ?_
    refine JL.go trivial (RX.pick_f rfl rfl) ?_
    refine JL.nil ?_
    refine J.cond_f rfl rfl ?_
    refine J.skip ?_
    refine J.seq ?_
    refine J.region ?_
    refine JL.go trivial (RX.movev (v := Value.float _ _) rfl) ?_
    refine JL.go trivial (RX.move) ?_
    refine JL.go trivial (RX.assignv (v := Value.float _ _) rfl) ?_
    refine JL.go trivial (RX.assign) ?_
    refine JL.nil ?_
    refine J.ret2 (v := Value.float _ _) Tryd.func80 rfl rfl rfl ?_
    first
    | (have hf : rF32 (bs.drop at_) = .err 13 := by
        rw [rF32, if_neg (by omega), ← h8.2.1, if_neg (by unfold canon32; rw [hlo] at hnp; rw [if_pos hnp]; omega)]
       rw [hf]
       exact ⟨_, rfl, (lo32 x, at_ + k), by rw [show errV E (Rs.err (α := Nat) 13).code = E 13 from errV_pos (by decide)]; rfl, fun h => (by cases h), H⟩)
    | (have hf : rF32 (bs.drop at_) = .ok x 4 := by
        rw [rF32, if_neg (by omega), ← h8.2.1, if_pos (by unfold canon32; rw [hlo] at hnp; split <;> omega)]
       rw [hf]
       exact ⟨_, rfl, (lo32 x, at_ + k), by rw [hz0]; rfl, fun _ => ⟨hlo, by rw [h8.2.2]; rfl⟩, H⟩)
    | (have hf : rF32 (bs.drop at_) = .err 1 := by rw [rF32, if_pos h8.1]
       rw [hf]
       exact ⟨_, rfl, (lo32 x, at_ + k), by rw [h8.2.1]; rfl, fun h => (by cases h), H⟩)
theorem Complex_cl {w0 w : World} {F : List Seg} {b T c at_ : Nat} {p : Option Addr} {s : Seg} {bs : List UInt8} {E : Nat → Value} {br : Nat} (H : Hp w0 w ([(br, cel [.pointer (some ⟨b, 0, none⟩)] 42)] :: [(b, cel [.slice p bs.length c, .int .i64 (at_ : Nat)] T)] :: s :: F)) (ho : OwnSl 5 1 p bs.length c (bv bs) s) (hat : at_ ≤ bs.length) (hl : bs.length ≤ 1099511627776) (hE : Er F E) : Ret Tryd.prog 77 [.pointer (some ⟨br, 0, none⟩)] w fun v w' => ∃ i : (Nat × Nat) × Nat, v = .tuple #[.complex .f64 i.1.1 i.1.2, errV E (rCo (bs.drop at_)).code] ∧ ((rCo (bs.drop at_)).code = 0 → i.1 = (rCo (bs.drop at_)).val (0, 0) ∧ i.2 = at_ + (rCo (bs.drop at_)).k) ∧ Hp w0 w' ([(b, cel [.slice p bs.length c, .int .i64 (i.2 : Nat)] T)] :: s :: [(br, cel [.pointer (some ⟨b, 0, none⟩)] 42)] :: F) := by
  refine Calls.of_J (n := 27) Tryd.func77 rfl rfl rfl ?_
  refine J.seq ?_
  refine J.region ?_
  refine JL.go trivial (RX.assign) ?_
  refine JL.go trivial (RX.assign) ?_
  refine JL.nil ?_
  refine J.seq ?_
  refine J.seq ?_
  refine J.region ?_
  refine JL.go trivial (by first | exact RX.load H rfl (i := 0) rfl rfl one42 | exact RX.load H rfl (i := 1) rfl rfl one42 | exact RX.load H rfl (i := 2) rfl rfl one42) ?_
  refine JL.does trivial (EX.call rfl cl20 rfl ((left_r ((H.pull 2 rfl).pull 2 rfl) ho hat hl))) ?_
  rintro _ w ⟨rfl, H⟩
  refine JL.go trivial (RX.lt rfl rfl) ?_
  refine JL.nil ?_
  refine J.cond_d rfl (fun hsh => ?_) (fun hsh => ?_)
  · skip
    refine J.seq ?_
    refine J.quietH H hmix (by kernel_rfl) ?_
    refine JQ.go trivial (fun w H => RX.loadG H rfl hE.g1.at_.cons.cons.cons one40) ?_
    refine JQ.go trivial (fun w H => RX.assign) ?_
    refine JQ.go trivial (fun w H => RX.assign) ?_
    refine JQ.nil fun w H => ?_
    refine J.ret2 (v := Value.complex _ _ _) Tryd.func77 rfl rfl rfl ?_
    have hf : rCo (bs.drop at_) = .err 1 := pair2_short (by rw [List.length_drop]; omega)
    rw [hf]
    exact ⟨_, rfl, ((0, 0), at_), by rw [show errV E (Rs.err (α := Nat × Nat) 1).code = E 1 from errV_pos (by decide)]; rfl, fun h => (by cases h), H⟩
  · skip
    have hns : ¬ (bs.drop at_).length < 16 := by rw [List.length_drop]; omega
    refine J.skip ?_
    refine J.seq ?_
    refine J.region ?_
    refine JL.go trivial (by first | exact RX.load H rfl (i := 0) rfl rfl one42 | exact RX.load H rfl (i := 1) rfl rfl one42 | exact RX.load H rfl (i := 2) rfl rfl one42) ?_
    refine JL.does trivial (EX.call rfl cl28 rfl ((rFloat_i H ho hat hl hE.cons))) ?_
    rintro _ w ⟨⟨x1, a1⟩, rfl, h1, H⟩
    have hie1 := er_ie hE (n := (rFl (bs.drop at_)).code) (rFl_good _).1.code
    dsimp only at h1 H
    refine JL.go trivial (RX.movev (v := Value.tuple _) rfl) ?_
    refine JL.go trivial (RX.extract rfl rfl) ?_
    refine JL.go trivial (RX.extract (v := errV E (rFl (bs.drop at_)).code) rfl rfl) ?_
    refine JL.go trivial (RX.assignv (v := Value.float _ _) rfl) ?_
    refine JL.go trivial (RX.assignv (v := errV E (rFl (bs.drop at_)).code) rfl) ?_
    refine JL.nil ?_
    refine J.seq ?_
    refine J.seq ?_
    refine J.region ?_
    refine JL.go trivial (RX.movev (v := errV E (rFl (bs.drop at_)).code) rfl) ?_
    refine JL.go trivial (RX.ifnil_neq (v := errV E (rFl (bs.drop at_)).code) rfl rfl hie1.1 if40) ?_
    refine JL.nil ?_
    refine J.cond rfl (fun hz => ?_) (fun hz => ?_)
    · skip
      have hz0 : ¬ (rFl (bs.drop at_)).code = 0 := by rw [hie1.2] at hz; simpa using hz
      obtain ⟨e, he, _⟩ := (rFl_good (bs.drop at_)).1.of_err hz0
      have hf : rCo (bs.drop at_) = .err e := pair2_e1 hns he
      refine J.seq ?_
      refine J.region ?_
      refine JL.go trivial (RX.movev (v := errV E (rFl (bs.drop at_)).code) rfl) ?_
      refine JL.go trivial (RX.assign) ?_
      refine JL.go trivial (RX.assignv (v := errV E (rFl (bs.drop at_)).code) rfl) ?_
      refine JL.nil ?_
      refine J.ret2 (v := Value.complex _ _ _) Tryd.func77 rfl rfl rfl ?_
      rw [hf]
      exact ⟨_, rfl, ((0, 0), a1), by rw [he]; rfl, fun h => (by rw [hf] at *; simp only [Rs.code_err] at h; have := (rFl_good (bs.drop at_)).1; rw [he] at this; have := this.1; omega), H⟩
    · skip
      have hz0 : (rFl (bs.drop at_)).code = 0 := by rw [hie1.2] at hz; simpa using hz
      obtain ⟨a, k, he, _⟩ := (rFl_good (bs.drop at_)).1.of_ok hz0
      obtain ⟨_, hk, _⟩ := (rFl_good (bs.drop at_)).2 _ _ he
      obtain ⟨rfl, rfl⟩ := h1 hz0
      have hdd : bs.drop (at_ + (rFl (bs.drop at_)).k) = (bs.drop at_).drop 8 := by rw [List.drop_drop, he]; simp only [Rs.k_ok]; rw [hk]
      have hat2 : at_ + (rFl (bs.drop at_)).k ≤ bs.length := by rw [he]; simp only [Rs.k_ok]; rw [List.length_drop] at hns; omega
      refine J.skip ?_
      refine J.seq ?_
      refine J.region ?_
      refine JL.go trivial (by first | exact RX.load H rfl (i := 0) rfl rfl one42 | exact RX.load H rfl (i := 1) rfl rfl one42 | exact RX.load H rfl (i := 2) rfl rfl one42) ?_
      refine JL.does trivial (EX.call rfl cl28 rfl ((rFloat_i H ho hat2 hl hE.cons))) ?_
      rintro _ w ⟨⟨x2, a2⟩, rfl, h2, H⟩
      rw [hdd] at h2 ⊢
      have hie2 := er_ie hE (n := (rFl ((bs.drop at_).drop 8)).code) (rFl_good _).1.code
      dsimp only at h2 H
      refine JL.go trivial (RX.movev (v := Value.tuple _) rfl) ?_
      refine JL.go trivial (RX.extract rfl rfl) ?_
      refine JL.go trivial (RX.extract (v := errV E (rFl ((bs.drop at_).drop 8)).code) rfl rfl) ?_
      refine JL.go trivial (RX.assignv (v := Value.float _ _) rfl) ?_
      refine JL.go trivial (RX.assignv (v := errV E (rFl ((bs.drop at_).drop 8)).code) rfl) ?_
      refine JL.nil ?_
      refine J.seq ?_
      refine J.region ?_
      refine JL.go trivial (RX.movev (v := Value.float _ _) rfl) ?_
      refine JL.go trivial (RX.movev (v := Value.float _ _) rfl) ?_
      refine JL.go trivial (RX.complex rfl rfl) ?_
      refine JL.go trivial (RX.movev (v := errV E (rFl ((bs.drop at_).drop 8)).code) rfl) ?_
      refine JL.go trivial (RX.assignv (v := Value.complex _ _ _) rfl) ?_
      refine JL.go trivial (RX.assignv (v := errV E (rFl ((bs.drop at_).drop 8)).code) rfl) ?_
      refine JL.nil ?_
      refine J.ret2 (v := Value.complex _ _ _) Tryd.func77 rfl rfl rfl ?_
      refine ⟨_, rfl, (((rFl (bs.drop at_)).val 0, x2), a2), ?_, ?_, H⟩
      · by_cases hz2 : (rFl ((bs.drop at_).drop 8)).code = 0
        · obtain ⟨a2, k2, he2, _⟩ := (rFl_good ((bs.drop at_).drop 8)).1.of_ok hz2
          rw [show rCo (bs.drop at_) = .ok (a, a2) 16 from pair2_ok hns he he2, hz2]; rfl
        · obtain ⟨e2, he2, _⟩ := (rFl_good ((bs.drop at_).drop 8)).1.of_err hz2
          rw [show rCo (bs.drop at_) = .err e2 from pair2_e2 hns he he2, he2]; rfl
      · intro h0
        by_cases hz2 : (rFl ((bs.drop at_).drop 8)).code = 0
        · obtain ⟨a2, k2, he2, _⟩ := (rFl_good ((bs.drop at_).drop 8)).1.of_ok hz2
          obtain ⟨rfl, rfl⟩ := h2 hz2
          obtain ⟨_, hk2, _⟩ := (rFl_good ((bs.drop at_).drop 8)).2 _ _ he2
          rw [show rCo (bs.drop at_) = .ok (a, a2) 16 from pair2_ok hns he he2, he, he2]
          simp only [Rs.val_ok, Rs.k_ok]
          exact ⟨trivial, by omega⟩
        · obtain ⟨e2, he2, _⟩ := (rFl_good ((bs.drop at_).drop 8)).1.of_err hz2
          rw [show rCo (bs.drop at_) = .err e2 from pair2_e2 hns he he2] at h0
          rw [he2] at hz2
          exact absurd h0 hz2
theorem rComplex_c {w0 w : World} {F : List Seg} {b T c at_ : Nat} {p : Option Addr} {s : Seg} {bs : List UInt8} {E : Nat → Value} (H : Hp w0 w ([(b, cel [.slice p bs.length c, .int .i64 (at_ : Nat)] T)] :: s :: F)) (ho : OwnSl 5 1 p bs.length c (bv bs) s) (hat : at_ ≤ bs.length) (hl : bs.length ≤ 1099511627776) (hE : Er F E) : Ret Tryd.prog 30 [.pointer (some ⟨b, 0, none⟩)] w (fun v w' => v = .tuple #[.complex .f64 ((rCo (bs.drop at_)).val (0, 0)).1 ((rCo (bs.drop at_)).val (0, 0)).2, errV E (rCo (bs.drop at_)).code] ∧ Hp w0 w' ([(b, cel [.slice p bs.length c, .int .i64 (at_ + (rCo (bs.drop at_)).k : Nat)] T)] :: s :: F)) := by
  refine Calls.of_J (n := 9) Tryd.func30 rfl rfl rfl ?_
  refine J.seq ?_
  refine J.region ?_
  refine JL.does trivial (EX.box (v := Value.pointer _) H rfl rfl) ?_
  rintro _ w ⟨br, rfl, H⟩
  refine JL.go trivial (RX.assign) ?_
  refine JL.go trivial (RX.assign) ?_
  refine JL.nil ?_
  refine J.seq ?_
  refine J.region ?_
  refine JL.go trivial (by first | exact RX.load H rfl (i := 0) rfl rfl one42 | exact RX.load H rfl (i := 1) rfl rfl one42 | exact RX.load H rfl (i := 2) rfl rfl one42) ?_
  refine JL.go trivial (RX.makeFunc rfl rfl) ?_
  refine JL.does trivial (EX.call rfl cl76 rfl ((whole_c (g := 77) (cv := [.pointer (some ⟨br, 0, none⟩)]) (val := fun i : (Nat × Nat) × Nat => Value.complex .f64 i.1.1 i.1.2) (at2 := fun i => i.2) (G := fun _ => s :: [(br, cel [.pointer (some ⟨b, 0, none⟩)] 42)] :: F) (Φ := fun i => (rCo (bs.drop at_)).code = 0 → i.1 = (rCo (bs.drop at_)).val (0, 0) ∧ i.2 = at_ + (rCo (bs.drop at_)).k) (H.pull 1 rfl) hE (rCo_g _).code cl77 (Complex_cl H ho hat hl hE)))) ?_
  rintro _ w ⟨i, rfl, hi, H⟩
  have hval : (if (rCo (bs.drop at_)).code = 0 then Value.complex .f64 i.1.1 i.1.2 else .complex .f64 0 0) = .complex .f64 ((rCo (bs.drop at_)).val (0, 0)).1 ((rCo (bs.drop at_)).val (0, 0)).2 ∧ (if (rCo (bs.drop at_)).code = 0 then i.2 else at_) = at_ + (rCo (bs.drop at_)).k := by
    by_cases h0 : (rCo (bs.drop at_)).code = 0
    · rw [if_pos h0, if_pos h0, (hi h0).1]; exact ⟨rfl, (hi h0).2⟩
    · obtain ⟨e, he, _⟩ := (rCo_g _).of_err h0
      rw [if_neg h0, if_neg h0, he]; exact ⟨rfl, rfl⟩
  rw [hval.2] at H
  rw [hval.1]
  refine JL.go trivial (RX.extract rfl rfl) ?_
  refine JL.go trivial (RX.extract (v := errV E (rCo (bs.drop at_)).code) rfl rfl) ?_
  refine JL.go trivial (RX.assignv (v := Value.complex _ _ _) rfl) ?_
  refine JL.go trivial (RX.assign) ?_
  refine JL.nil ?_
  refine J.ret2 (v := Value.complex _ _ _) Tryd.func30 rfl rfl rfl ?_
  exact ⟨_, rfl, rfl, (H.pull 2 rfl).drop⟩
theorem Narrow_cl {w0 w : World} {F : List Seg} {b T c at_ : Nat} {p : Option Addr} {s : Seg} {bs : List UInt8} {E : Nat → Value} {br : Nat} (H : Hp w0 w ([(br, cel [.pointer (some ⟨b, 0, none⟩)] 42)] :: [(b, cel [.slice p bs.length c, .int .i64 (at_ : Nat)] T)] :: s :: F)) (ho : OwnSl 5 1 p bs.length c (bv bs) s) (hat : at_ ≤ bs.length) (hl : bs.length ≤ 1099511627776) (hE : Er F E) : Ret Tryd.prog 79 [.pointer (some ⟨br, 0, none⟩)] w fun v w' => ∃ i : (Nat × Nat) × Nat, v = .tuple #[.complex .f32 i.1.1 i.1.2, errV E (rNa (bs.drop at_)).code] ∧ ((rNa (bs.drop at_)).code = 0 → i.1 = (rNa (bs.drop at_)).val (0, 0) ∧ i.2 = at_ + (rNa (bs.drop at_)).k) ∧ Hp w0 w' ([(b, cel [.slice p bs.length c, .int .i64 (i.2 : Nat)] T)] :: s :: [(br, cel [.pointer (some ⟨b, 0, none⟩)] 42)] :: F) := by
  refine Calls.of_J (n := 27) Tryd.func79 rfl rfl rfl ?_
  refine J.seq ?_
  refine J.region ?_
  refine JL.go trivial (RX.assign) ?_
  refine JL.go trivial (RX.assign) ?_
  refine JL.nil ?_
  refine J.seq ?_
  refine J.seq ?_
  refine J.region ?_
  refine JL.go trivial (by first | exact RX.load H rfl (i := 0) rfl rfl one42 | exact RX.load H rfl (i := 1) rfl rfl one42 | exact RX.load H rfl (i := 2) rfl rfl one42) ?_
  refine JL.does trivial (EX.call rfl cl20 rfl ((left_r ((H.pull 2 rfl).pull 2 rfl) ho hat hl))) ?_
  rintro _ w ⟨rfl, H⟩
  refine JL.go trivial (RX.lt rfl rfl) ?_
  refine JL.nil ?_
  refine J.cond_d rfl (fun hsh => ?_) (fun hsh => ?_)
  · skip
    refine J.seq ?_
    refine J.quietH H hmix (by kernel_rfl) ?_
    refine JQ.go trivial (fun w H => RX.loadG H rfl hE.g1.at_.cons.cons.cons one40) ?_
    refine JQ.go trivial (fun w H => RX.assign) ?_
    refine JQ.go trivial (fun w H => RX.assign) ?_
    refine JQ.nil fun w H => ?_
    refine J.ret2 (v := Value.complex _ _ _) Tryd.func79 rfl rfl rfl ?_
    have hf : rNa (bs.drop at_) = .err 1 := pair2_short (by rw [List.length_drop]; omega)
    rw [hf]
    exact ⟨_, rfl, ((0, 0), at_), by rw [show errV E (Rs.err (α := Nat × Nat) 1).code = E 1 from errV_pos (by decide)]; rfl, fun h => (by cases h), H⟩
  · skip
    have hns : ¬ (bs.drop at_).length < 8 := by rw [List.length_drop]; omega
    refine J.skip ?_
    refine J.seq ?_
    refine J.region ?_
    refine JL.go trivial (by first | exact RX.load H rfl (i := 0) rfl rfl one42 | exact RX.load H rfl (i := 1) rfl rfl one42 | exact RX.load H rfl (i := 2) rfl rfl one42) ?_
    refine JL.does trivial (EX.call rfl cl80 rfl ((narrow_i H ho hat hl hE.cons))) ?_
    rintro _ w ⟨⟨x1, a1⟩, rfl, h1, H⟩
    have hie1 := er_ie hE (n := (rF32 (bs.drop at_)).code) (rF32_good _).1.code
    dsimp only at h1 H
    refine JL.go trivial (RX.movev (v := Value.tuple _) rfl) ?_
    refine JL.go trivial (RX.extract rfl rfl) ?_
    refine JL.go trivial (RX.extract (v := errV E (rF32 (bs.drop at_)).code) rfl rfl) ?_
    refine JL.go trivial (RX.assignv (v := Value.float _ _) rfl) ?_
    refine JL.go trivial (RX.assignv (v := errV E (rF32 (bs.drop at_)).code) rfl) ?_
    refine JL.nil ?_
    refine J.seq ?_
    refine J.seq ?_
    refine J.region ?_
    refine JL.go trivial (RX.movev (v := errV E (rF32 (bs.drop at_)).code) rfl) ?_
    refine JL.go trivial (RX.ifnil_neq (v := errV E (rF32 (bs.drop at_)).code) rfl rfl hie1.1 if40) ?_
    refine JL.nil ?_
    refine J.cond rfl (fun hz => ?_) (fun hz => ?_)
    · skip
      have hz0 : ¬ (rF32 (bs.drop at_)).code = 0 := by rw [hie1.2] at hz; simpa using hz
      obtain ⟨e, he, _⟩ := (rF32_good (bs.drop at_)).1.of_err hz0
      have hf : rNa (bs.drop at_) = .err e := pair2_e1 hns he
      refine J.seq ?_
      refine J.region ?_
      refine JL.go trivial (RX.movev (v := errV E (rF32 (bs.drop at_)).code) rfl) ?_
      refine JL.go trivial (RX.assign) ?_
      refine JL.go trivial (RX.assignv (v := errV E (rF32 (bs.drop at_)).code) rfl) ?_
      refine JL.nil ?_
      refine J.ret2 (v := Value.complex _ _ _) Tryd.func79 rfl rfl rfl ?_
      rw [hf]
      exact ⟨_, rfl, ((0, 0), a1), by rw [he]; rfl, fun h => (by rw [hf] at *; simp only [Rs.code_err] at h; have := (rF32_good (bs.drop at_)).1; rw [he] at this; have := this.1; omega), H⟩
    · skip
      have hz0 : (rF32 (bs.drop at_)).code = 0 := by rw [hie1.2] at hz; simpa using hz
      obtain ⟨a, k, he, _⟩ := (rF32_good (bs.drop at_)).1.of_ok hz0
      obtain ⟨_, hk, _⟩ := (rF32_good (bs.drop at_)).2 _ _ he
      obtain ⟨rfl, rfl⟩ := h1 hz0
      have hdd : bs.drop (at_ + (rF32 (bs.drop at_)).k) = (bs.drop at_).drop 4 := by rw [List.drop_drop, he]; simp only [Rs.k_ok]; rw [hk]
      have hat2 : at_ + (rF32 (bs.drop at_)).k ≤ bs.length := by rw [he]; simp only [Rs.k_ok]; rw [List.length_drop] at hns; omega
      refine J.skip ?_
      refine J.seq ?_
      refine J.region ?_
      refine JL.go trivial (by first | exact RX.load H rfl (i := 0) rfl rfl one42 | exact RX.load H rfl (i := 1) rfl rfl one42 | exact RX.load H rfl (i := 2) rfl rfl one42) ?_
      refine JL.does trivial (EX.call rfl cl80 rfl ((narrow_i H ho hat2 hl hE.cons))) ?_
      rintro _ w ⟨⟨x2, a2⟩, rfl, h2, H⟩
      rw [hdd] at h2 ⊢
      have hie2 := er_ie hE (n := (rF32 ((bs.drop at_).drop 4)).code) (rF32_good _).1.code
      dsimp only at h2 H
      refine JL.go trivial (RX.movev (v := Value.tuple _) rfl) ?_
      refine JL.go trivial (RX.extract rfl rfl) ?_
      refine JL.go trivial (RX.extract (v := errV E (rF32 ((bs.drop at_).drop 4)).code) rfl rfl) ?_
      refine JL.go trivial (RX.assignv (v := Value.float _ _) rfl) ?_
      refine JL.go trivial (RX.assignv (v := errV E (rF32 ((bs.drop at_).drop 4)).code) rfl) ?_
      refine JL.nil ?_
      refine J.seq ?_
      refine J.region ?_
      refine JL.go trivial (RX.movev (v := Value.float _ _) rfl) ?_
      refine JL.go trivial (RX.movev (v := Value.float _ _) rfl) ?_
      refine JL.go trivial (RX.complex rfl rfl) ?_
      refine JL.go trivial (RX.movev (v := errV E (rF32 ((bs.drop at_).drop 4)).code) rfl) ?_
      refine JL.go trivial (RX.assignv (v := Value.complex _ _ _) rfl) ?_
      refine JL.go trivial (RX.assignv (v := errV E (rF32 ((bs.drop at_).drop 4)).code) rfl) ?_
      refine JL.nil ?_
      refine J.ret2 (v := Value.complex _ _ _) Tryd.func79 rfl rfl rfl ?_
      refine ⟨_, rfl, (((rF32 (bs.drop at_)).val 0, x2), a2), ?_, ?_, H⟩
      · by_cases hz2 : (rF32 ((bs.drop at_).drop 4)).code = 0
        · obtain ⟨a2, k2, he2, _⟩ := (rF32_good ((bs.drop at_).drop 4)).1.of_ok hz2
          rw [show rNa (bs.drop at_) = .ok (a, a2) 8 from pair2_ok hns he he2, hz2]; rfl
        · obtain ⟨e2, he2, _⟩ := (rF32_good ((bs.drop at_).drop 4)).1.of_err hz2
          rw [show rNa (bs.drop at_) = .err e2 from pair2_e2 hns he he2, he2]; rfl
      · intro h0
        by_cases hz2 : (rF32 ((bs.drop at_).drop 4)).code = 0
        · obtain ⟨a2, k2, he2, _⟩ := (rF32_good ((bs.drop at_).drop 4)).1.of_ok hz2
          obtain ⟨rfl, rfl⟩ := h2 hz2
          obtain ⟨_, hk2, _⟩ := (rF32_good ((bs.drop at_).drop 4)).2 _ _ he2
          rw [show rNa (bs.drop at_) = .ok (a, a2) 8 from pair2_ok hns he he2, he, he2]
          simp only [Rs.val_ok, Rs.k_ok]
          exact ⟨trivial, by omega⟩
        · obtain ⟨e2, he2, _⟩ := (rF32_good ((bs.drop at_).drop 4)).1.of_err hz2
          rw [show rNa (bs.drop at_) = .err e2 from pair2_e2 hns he he2] at h0
          rw [he2] at hz2
          exact absurd h0 hz2
theorem rNarrow_c {w0 w : World} {F : List Seg} {b T c at_ : Nat} {p : Option Addr} {s : Seg} {bs : List UInt8} {E : Nat → Value} (H : Hp w0 w ([(b, cel [.slice p bs.length c, .int .i64 (at_ : Nat)] T)] :: s :: F)) (ho : OwnSl 5 1 p bs.length c (bv bs) s) (hat : at_ ≤ bs.length) (hl : bs.length ≤ 1099511627776) (hE : Er F E) : Ret Tryd.prog 32 [.pointer (some ⟨b, 0, none⟩)] w (fun v w' => v = .tuple #[.complex .f32 ((rNa (bs.drop at_)).val (0, 0)).1 ((rNa (bs.drop at_)).val (0, 0)).2, errV E (rNa (bs.drop at_)).code] ∧ Hp w0 w' ([(b, cel [.slice p bs.length c, .int .i64 (at_ + (rNa (bs.drop at_)).k : Nat)] T)] :: s :: F)) := by
  refine Calls.of_J (n := 9) Tryd.func32 rfl rfl rfl ?_
  refine J.seq ?_
  refine J.region ?_
  refine JL.does trivial (EX.box (v := Value.pointer _) H rfl rfl) ?_
  rintro _ w ⟨br, rfl, H⟩
  refine JL.go trivial (RX.assign) ?_
  refine JL.go trivial (RX.assign) ?_
  refine JL.nil ?_
  refine J.seq ?_
  refine J.region ?_
  refine JL.go trivial (by first | exact RX.load H rfl (i := 0) rfl rfl one42 | exact RX.load H rfl (i := 1) rfl rfl one42 | exact RX.load H rfl (i := 2) rfl rfl one42) ?_
  refine JL.go trivial (RX.makeFunc rfl rfl) ?_
  refine JL.does trivial (EX.call rfl cl78 rfl ((whole_n (g := 79) (cv := [.pointer (some ⟨br, 0, none⟩)]) (val := fun i : (Nat × Nat) × Nat => Value.complex .f32 i.1.1 i.1.2) (at2 := fun i => i.2) (G := fun _ => s :: [(br, cel [.pointer (some ⟨b, 0, none⟩)] 42)] :: F) (Φ := fun i => (rNa (bs.drop at_)).code = 0 → i.1 = (rNa (bs.drop at_)).val (0, 0) ∧ i.2 = at_ + (rNa (bs.drop at_)).k) (H.pull 1 rfl) hE (rNa_g _).code cl79 (Narrow_cl H ho hat hl hE)))) ?_
  rintro _ w ⟨i, rfl, hi, H⟩
  have hval : (if (rNa (bs.drop at_)).code = 0 then Value.complex .f32 i.1.1 i.1.2 else .complex .f32 0 0) = .complex .f32 ((rNa (bs.drop at_)).val (0, 0)).1 ((rNa (bs.drop at_)).val (0, 0)).2 ∧ (if (rNa (bs.drop at_)).code = 0 then i.2 else at_) = at_ + (rNa (bs.drop at_)).k := by
    by_cases h0 : (rNa (bs.drop at_)).code = 0
    · rw [if_pos h0, if_pos h0, (hi h0).1]; exact ⟨rfl, (hi h0).2⟩
    · obtain ⟨e, he, _⟩ := (rNa_g _).of_err h0
      rw [if_neg h0, if_neg h0, he]; exact ⟨rfl, rfl⟩
  rw [hval.2] at H
  rw [hval.1]
  refine JL.go trivial (RX.extract rfl rfl) ?_
  refine JL.go trivial (RX.extract (v := errV E (rNa (bs.drop at_)).code) rfl rfl) ?_
  refine JL.go trivial (RX.assignv (v := Value.complex _ _ _) rfl) ?_
  refine JL.go trivial (RX.assign) ?_
  refine JL.nil ?_
  refine J.ret2 (v := Value.complex _ _ _) Tryd.func32 rfl rfl rfl ?_
  exact ⟨_, rfl, rfl, (H.pull 2 rfl).drop⟩
theorem bv_part {bs : List UInt8} {m n : Nat} : ((bv bs).drop (m * 1)).take n = bv ((bs.drop m).take n) := by simp [bv, List.map_drop, List.map_take]
theorem Text_cl {w0 w : World} {F : List Seg} {b T c at_ : Nat} {p : Option Addr} {s : Seg} {bs : List UInt8} {E : Nat → Value} {br bm : Nat} {most : Int} (H : Hp w0 w ([(br, cel [.pointer (some ⟨b, 0, none⟩)] 42)] :: [(bm, cel [.int .i64 most] 3)] :: [(b, cel [.slice p bs.length c, .int .i64 (at_ : Nat)] T)] :: s :: F)) (ho : OwnSl 5 1 p bs.length c (bv bs) s) (hat : at_ ≤ bs.length) (hl : bs.length ≤ 1099511627776) (hE : Er F E) (hm0 : -9223372036854775808 ≤ most) (hm1 : most ≤ 9223372036854775807) : Ret Tryd.prog 83 [.pointer (some ⟨br, 0, none⟩), .pointer (some ⟨bm, 0, none⟩)] w fun v w' => ∃ i : List UInt8 × Nat, v = .tuple #[.string ⟨i.1.toArray⟩, errV E (rTx most (bs.drop at_)).code] ∧ ((rTx most (bs.drop at_)).code = 0 → i.1 = (rTx most (bs.drop at_)).val [] ∧ i.2 = at_ + (rTx most (bs.drop at_)).k) ∧ Hp w0 w' ([(b, cel [.slice p bs.length c, .int .i64 (i.2 : Nat)] T)] :: s :: [(br, cel [.pointer (some ⟨b, 0, none⟩)] 42)] :: [(bm, cel [.int .i64 most] 3)] :: F) := by
  refine Calls.of_J (n := 44) Tryd.func83 rfl rfl rfl ?_
  refine J.seq ?_
  refine J.region ?_
  refine JL.go trivial (RX.assign) ?_
  refine JL.go trivial (RX.assign) ?_
  refine JL.nil ?_
  refine J.seq ?_
  refine J.region ?_
  refine JL.go trivial (by first | exact RX.load H rfl (i := 0) rfl rfl one42 | exact RX.load H rfl (i := 1) rfl rfl one42 | exact RX.load H rfl (i := 2) rfl rfl one42 | exact RX.load H rfl (i := 3) rfl rfl one42) ?_
  refine JL.go trivial (by first | exact RX.load H rfl (i := 0) rfl rfl one3 | exact RX.load H rfl (i := 1) rfl rfl one3 | exact RX.load H rfl (i := 2) rfl rfl one3 | exact RX.load H rfl (i := 3) rfl rfl one3) ?_
  refine JL.does trivial (EX.call rfl cl57 rfl ((rUpto_c ((H.pull 3 rfl).pull 3 rfl) ho hat hl hE.cons.cons hm0 hm1))) ?_
  rintro _ w ⟨rfl, H⟩
  have hg := rUp_good most (bs.drop at_)
  have hie := er_ie hE (n := (rUp most (bs.drop at_)).code) hg.1.code
  have hu1 := hg.1.k
  rw [List.length_drop] at hu1
  refine JL.go trivial (RX.movev (v := Value.tuple _) rfl) ?_
  refine JL.go trivial (RX.extract rfl rfl) ?_
  refine JL.go trivial (RX.extract (v := errV E (rUp most (bs.drop at_)).code) rfl rfl) ?_
  refine JL.go trivial (RX.assignv (v := Value.int _ _) rfl) ?_
  refine JL.go trivial (RX.assignv (v := errV E (rUp most (bs.drop at_)).code) rfl) ?_
  refine JL.nil ?_
  refine J.seq ?_
  refine J.seq ?_
  refine J.region ?_
  refine JL.go trivial (RX.movev (v := errV E (rUp most (bs.drop at_)).code) rfl) ?_
  refine JL.go trivial (RX.ifnil_neq (v := errV E (rUp most (bs.drop at_)).code) rfl rfl hie.1 if40) ?_
  refine JL.nil ?_
  refine J.cond rfl (fun hz => ?_) (fun hz => ?_)
  · skip
    have hz0 : ¬ (rUp most (bs.drop at_)).code = 0 := by rw [hie.2] at hz; simpa using hz
    obtain ⟨e, he, he1, _⟩ := hg.1.of_err hz0
    have hf : rTx most (bs.drop at_) = .err e := by rw [rTx, he]
    refine J.seq ?_
    refine J.region ?_
    refine JL.go trivial (RX.movev (v := errV E (rUp most (bs.drop at_)).code) rfl) ?_
    refine JL.go trivial (RX.assign) ?_
    refine JL.go trivial (RX.assignv (v := errV E (rUp most (bs.drop at_)).code) rfl) ?_
    refine JL.nil ?_
    refine J.ret2 (v := Value.string _) Tryd.func83 rfl rfl rfl ?_
    rw [hf]
    exact ⟨_, rfl, ([], at_ + (rUp most (bs.drop at_)).k), by rw [he]; rfl, fun h => (by simp only [Rs.code_err] at h; omega), H⟩
  · skip
    have hz0 : (rUp most (bs.drop at_)).code = 0 := by rw [hie.2] at hz; simpa using hz
    obtain ⟨n, k, hu, hkl⟩ := hg.1.of_ok hz0
    have hup := hg.2 n k hu
    rw [hu] at H hu1 ⊢
    simp only [Rs.val_ok, Rs.k_ok, Rs.code_ok, Rs.val_err, Rs.k_err, Rs.code_err] at H hu1 ⊢
    refine J.skip ?_
    refine J.seq ?_
    refine J.seq ?_
    refine J.region ?_
    refine JL.go trivial (by first | exact RX.load H rfl (i := 0) rfl rfl one42 | exact RX.load H rfl (i := 1) rfl rfl one42 | exact RX.load H rfl (i := 2) rfl rfl one42 | exact RX.load H rfl (i := 3) rfl rfl one42) ?_
    refine JL.does trivial (EX.call rfl cl20 rfl ((left_r H ho (at_ := at_ + k) (by omega) hl))) ?_
    rintro _ w ⟨rfl, H⟩
    refine JL.go trivial (RX.movev (v := Value.int _ _) rfl) ?_
    refine JL.go trivial (RX.lt rfl rfl) ?_
    refine JL.nil ?_
    refine J.cond_d rfl (fun hsh => ?_) (fun hsh => ?_)
    · skip
      refine J.seq ?_
      refine J.quietH H hmix (by kernel_rfl) ?_
      refine JQ.go trivial (fun w H => RX.loadG H rfl hE.g1.at_.cons.cons.cons.cons one40) ?_
      refine JQ.go trivial (fun w H => RX.assign) ?_
      refine JQ.go trivial (fun w H => RX.assign) ?_
      refine JQ.nil fun w H => ?_
      refine J.ret2 (v := Value.string _) Tryd.func83 rfl rfl rfl ?_
      have hf : rTx most (bs.drop at_) = .err 1 := by simp only [rTx, hu]; rw [if_pos (by rw [List.length_drop, List.length_drop]; omega)]
      rw [hf]
      exact ⟨_, rfl, ([], at_ + k), by rw [show errV E (Rs.err (α := List UInt8) 1).code = E 1 from errV_pos (by decide)]; rfl, fun h => (by cases h), H⟩
    · skip
      have hnl : n ≤ bs.length - (at_ + k) := by omega
      have hle := ho.le
      refine J.skip ?_
      refine J.seq ?_
      refine J.region ?_
      refine JL.go trivial (by first | exact RX.load H rfl (i := 0) rfl rfl one42 | exact RX.load H rfl (i := 1) rfl rfl one42 | exact RX.load H rfl (i := 2) rfl rfl one42 | exact RX.load H rfl (i := 3) rfl rfl one42) ?_
      refine JL.go trivial (RX.nilCheck rfl) ?_
      refine JL.go trivial (RX.fieldAddr rfl fo102_1 rfl) ?_
      refine JL.go trivial (by first | exact RX.load H rfl (i := 0) rfl rfl one3 | exact RX.load H rfl (i := 1) rfl rfl one3 | exact RX.load H rfl (i := 2) rfl rfl one3 | exact RX.load H rfl (i := 3) rfl rfl one3) ?_
      refine JL.go trivial (RX.movev (v := Value.int _ _) rfl) ?_
      refine JL.go trivial (RX.add rfl rfl (w_i64 (r := ((at_ + k + n : Nat) : Int)) (by omega) (by omega) (by omega))) ?_
      refine JL.go trivial (RX.nilCheck rfl) ?_
      refine JL.go trivial (RX.fieldAddr rfl fo102_1 rfl) ?_
      refine JL.does trivial (by first | exact EX.store (v := Value.int _ _) H rfl rfl (i := 0) rfl rfl (by simp) sz3 rfl rfl | exact EX.store (v := Value.int _ _) H rfl rfl (i := 1) rfl rfl (by simp) sz3 rfl rfl | exact EX.store (v := Value.int _ _) H rfl rfl (i := 2) rfl rfl (by simp) sz3 rfl rfl | exact EX.store (v := Value.int _ _) H rfl rfl (i := 3) rfl rfl (by simp) sz3 rfl rfl) ?_
      rintro _ w H
      refine JL.nil ?_
      refine J.seq ?_
      refine J.quietH H hmix (by kernel_rfl) ?_
      refine JQ.go trivial (fun w H => by first | exact RX.load H rfl (i := 0) rfl rfl one42 | exact RX.load H rfl (i := 1) rfl rfl one42 | exact RX.load H rfl (i := 2) rfl rfl one42 | exact RX.load H rfl (i := 3) rfl rfl one42) ?_
      refine JQ.go trivial (fun w H => RX.nilCheck rfl) ?_
      refine JQ.go trivial (fun w H => RX.fieldAddr rfl fo102_0 rfl) ?_
      refine JQ.go trivial (fun w H => by first | exact RX.load H rfl (i := 0) rfl rfl one26 | exact RX.load H rfl (i := 1) rfl rfl one26 | exact RX.load H rfl (i := 2) rfl rfl one26 | exact RX.load H rfl (i := 3) rfl rfl one26) ?_
      refine JQ.go trivial (fun w H => by first | exact RX.load H rfl (i := 0) rfl rfl one42 | exact RX.load H rfl (i := 1) rfl rfl one42 | exact RX.load H rfl (i := 2) rfl rfl one42 | exact RX.load H rfl (i := 3) rfl rfl one42) ?_
      refine JQ.go trivial (fun w H => RX.nilCheck rfl) ?_
      refine JQ.go trivial (fun w H => RX.fieldAddr rfl fo102_1 rfl) ?_
      refine JQ.go trivial (fun w H => by first | exact RX.load H rfl (i := 0) rfl rfl one3 | exact RX.load H rfl (i := 1) rfl rfl one3 | exact RX.load H rfl (i := 2) rfl rfl one3 | exact RX.load H rfl (i := 3) rfl rfl one3) ?_
      refine JQ.go trivial (fun w H => RX.movev (v := Value.int _ _) rfl) ?_
      refine JQ.go trivial (fun w H => RX.sub rfl rfl (w_i64 (r := ((at_ + k : Nat) : Int)) (by omega) (by omega) (by omega))) ?_
      refine JQ.go trivial (fun w H => by first | exact RX.load H rfl (i := 0) rfl rfl one42 | exact RX.load H rfl (i := 1) rfl rfl one42 | exact RX.load H rfl (i := 2) rfl rfl one42 | exact RX.load H rfl (i := 3) rfl rfl one42) ?_
      refine JQ.go trivial (fun w H => RX.nilCheck rfl) ?_
      refine JQ.go trivial (fun w H => RX.fieldAddr rfl fo102_1 rfl) ?_
      refine JQ.go trivial (fun w H => by first | exact RX.load H rfl (i := 0) rfl rfl one3 | exact RX.load H rfl (i := 1) rfl rfl one3 | exact RX.load H rfl (i := 2) rfl rfl one3 | exact RX.load H rfl (i := 3) rfl rfl one3) ?_
      refine JQ.go trivial (fun w H => RX.slice_lh rfl rfl rfl sl26 ho.spot (by omega) (by omega) (by omega) (show ((at_ + k : Nat) : Int).toNat = at_ + k from rfl) (show ((at_ + k + n : Nat) : Int).toNat = at_ + k + n from rfl)) ?_
      have hlen : ((bs.drop (at_ + k)).take n).length = at_ + k + n - (at_ + k) := by rw [List.length_take, List.length_drop]; omega
      refine JQ.go trivial (fun w H => RX.b2s (p := behind p c (at_ + k) 1) (c := c - (at_ + k)) (l := (bs.drop (at_ + k)).take n) H (by rw [hlen]; rfl) (by show SlAt _ _ (bv _); rw [← bv_part]; exact (SlAt.behind (ho.slAt.cons) (by rw [bv_len]; omega)).take) sl26 ud5 ud9) ?_
      refine JQ.go trivial (fun w H => RX.assignv (v := Value.string _) rfl) ?_
      refine JQ.go trivial (fun w H => RX.assign) ?_
      refine JQ.nil fun w H => ?_
      refine J.ret2 (v := Value.string _) Tryd.func83 rfl rfl rfl ?_
      have hf : rTx most (bs.drop at_) = .ok ((bs.drop (at_ + k)).take n) (k + n) := by simp only [rTx, hu]; rw [if_neg (by rw [List.length_drop, List.length_drop]; omega), List.drop_drop]
      rw [hf]
      exact ⟨_, rfl, ((bs.drop (at_ + k)).take n, at_ + k + n), rfl, fun _ => ⟨rfl, by simp only [Rs.k_ok]; omega⟩, H⟩
theorem rText_c {w0 w : World} {F : List Seg} {b T c at_ : Nat} {p : Option Addr} {s : Seg} {bs : List UInt8} {E : Nat → Value} (H : Hp w0 w ([(b, cel [.slice p bs.length c, .int .i64 (at_ : Nat)] T)] :: s :: F)) (ho : OwnSl 5 1 p bs.length c (bv bs) s) (hat : at_ ≤ bs.length) (hl : bs.length ≤ 1099511627776) (hE : Er F E) {most : Int} (hm0 : -9223372036854775808 ≤ most) (hm1 : most ≤ 9223372036854775807) : Ret Tryd.prog 34 [.pointer (some ⟨b, 0, none⟩), .int .i64 most] w (fun v w' => v = .tuple #[.string ⟨((rTx most (bs.drop at_)).val []).toArray⟩, errV E (rTx most (bs.drop at_)).code] ∧ Hp w0 w' ([(b, cel [.slice p bs.length c, .int .i64 (at_ + (rTx most (bs.drop at_)).k : Nat)] T)] :: s :: F)) := by
  refine Calls.of_J (n := 11) Tryd.func34 rfl rfl rfl ?_
  refine J.seq ?_
  refine J.region ?_
  refine JL.does trivial (EX.box (v := Value.pointer _) H rfl rfl) ?_
  rintro _ w ⟨br, rfl, H⟩
  refine JL.does trivial (EX.box (v := Value.int _ _) H rfl rfl) ?_
  rintro _ w ⟨bm, rfl, H⟩
  refine JL.go trivial (RX.assign) ?_
  refine JL.go trivial (RX.assign) ?_
  refine JL.nil ?_
  refine J.seq ?_
  refine J.region ?_
  refine JL.go trivial (by first | exact RX.load H rfl (i := 0) rfl rfl one42 | exact RX.load H rfl (i := 1) rfl rfl one42 | exact RX.load H rfl (i := 2) rfl rfl one42 | exact RX.load H rfl (i := 3) rfl rfl one42) ?_
  refine JL.go trivial (RX.makeFunc rfl rfl) ?_
  refine JL.does trivial (EX.call rfl cl82 rfl ((whole_s (g := 83) (cv := [.pointer (some ⟨br, 0, none⟩), .pointer (some ⟨bm, 0, none⟩)]) (val := fun i : List UInt8 × Nat => .string ⟨i.1.toArray⟩) (at2 := fun i => i.2) (G := fun _ => s :: [(br, cel [.pointer (some ⟨b, 0, none⟩)] 42)] :: [(bm, cel [.int .i64 most] 3)] :: F) (Φ := fun i => (rTx most (bs.drop at_)).code = 0 → i.1 = (rTx most (bs.drop at_)).val [] ∧ i.2 = at_ + (rTx most (bs.drop at_)).k) (H.pull 2 rfl) hE (rTx_good _ _).1.code cl83 (Text_cl (H.pull 1 rfl) ho hat hl hE hm0 hm1)))) ?_
  rintro _ w ⟨i, rfl, hi, H⟩
  have hval : (if (rTx most (bs.drop at_)).code = 0 then Value.string ⟨i.1.toArray⟩ else .string ⟨#[]⟩) = .string ⟨((rTx most (bs.drop at_)).val []).toArray⟩ ∧ (if (rTx most (bs.drop at_)).code = 0 then i.2 else at_) = at_ + (rTx most (bs.drop at_)).k := by
    by_cases h0 : (rTx most (bs.drop at_)).code = 0
    · rw [if_pos h0, if_pos h0, (hi h0).1]; exact ⟨rfl, (hi h0).2⟩
    · obtain ⟨e, he, _⟩ := (rTx_good _ _).1.of_err h0
      rw [if_neg h0, if_neg h0, he]; exact ⟨rfl, rfl⟩
  rw [hval.2] at H
  rw [hval.1]
  refine JL.go trivial (RX.extract rfl rfl) ?_
  refine JL.go trivial (RX.extract (v := errV E (rTx most (bs.drop at_)).code) rfl rfl) ?_
  refine JL.go trivial (RX.assignv (v := Value.string _) rfl) ?_
  refine JL.go trivial (RX.assign) ?_
  refine JL.nil ?_
  refine J.ret2 (v := Value.string _) Tryd.func34 rfl rfl rfl ?_
  exact ⟨_, rfl, rfl, (((H.pull 2 rfl).drop).pull 2 rfl).drop⟩

def rManyA {α : Type} (one : List UInt8 → Rs α) : Nat → List α → Nat → List UInt8 → Rs (List α)
  | 0, acc, k, _ => .ok acc k
  | n + 1, acc, k, l => match one l with
    | .err e => .err e
    | .ok a k1 => rManyA one n (acc ++ [a]) (k + k1) (l.drop k1)
theorem rManyA_eq {α : Type} {one : List UInt8 → Rs α} : ∀ (n : Nat) (acc : List α) (k : Nat) (l : List UInt8), rManyA one n acc k l = (match rMany one n l with
    | .err e => .err e
    | .ok ys m => .ok (acc ++ ys) (k + m))
  | 0, acc, k, l => by simp [rManyA, rMany]
  | n + 1, acc, k, l => by
    unfold rManyA rMany
    cases one l with
    | err e => rfl
    | ok a k1 =>
      simp only
      rw [rManyA_eq n]
      cases rMany one n (l.drop k1) with
      | err e => rfl
      | ok ys m => simp [Nat.add_assoc]
theorem rMany_A {α : Type} {one : List UInt8 → Rs α} (n : Nat) (l : List UInt8) : rMany one n l = rManyA one n [] 0 l := by
  rw [rManyA_eq]
  cases rMany one n l <;> simp
theorem rManyA_err {α : Type} {one : List UInt8 → Rs α} {n k e : Nat} {acc : List α} {l : List UInt8} (hn : 0 < n) (h : one l = .err e) : rManyA one n acc k l = .err e := by
  obtain ⟨m, rfl⟩ : ∃ m, n = m + 1 := ⟨n - 1, by omega⟩
  rw [rManyA, h]
theorem rManyA_ok {α : Type} {one : List UInt8 → Rs α} {n k k1 : Nat} {a : α} {acc : List α} {l : List UInt8} (hn : 0 < n) (h : one l = .ok a k1) : rManyA one n acc k l = rManyA one (n - 1) (acc ++ [a]) (k + k1) (l.drop k1) := by
  obtain ⟨m, rfl⟩ : ∃ m, n = m + 1 := ⟨n - 1, by omega⟩
  rw [rManyA, h]; rfl
theorem all_lc {w0 w : World} {F : List Seg} {b T c at_ : Nat} {p : Option Addr} {s : Seg} {bs : List UInt8} {E : Nat → Value} {br bo Tr To : Nat} (H : Hp w0 w ([(br, cel [.pointer (some ⟨b, 0, none⟩)] Tr)] :: [(bo, cel [.func (.func 30) #[.pointer (some ⟨b, 0, none⟩)] #[]] To)] :: [(b, cel [.slice p bs.length c, .int .i64 (at_ : Nat)] T)] :: s :: F)) (ho : OwnSl 5 1 p bs.length c (bv bs) s) (hat : at_ ≤ bs.length) (hl : bs.length ≤ 1099511627776) (hE : Er F E) : Ret Tryd.prog 91 [.pointer (some ⟨br, 0, none⟩), .pointer (some ⟨bo, 0, none⟩)] w fun v w' => ∃ i : Option Addr × Nat × Nat × Seg × Nat, v = .tuple #[.slice i.1 i.2.1 i.2.2.1, errV E (rList rCo (bs.drop at_)).code] ∧ ((rList rCo (bs.drop at_)).code = 0 → i.2.1 = ((rList rCo (bs.drop at_)).val []).length ∧ OwnSl 38 1 i.1 i.2.1 i.2.2.1 (cVs ((rList rCo (bs.drop at_)).val [])) i.2.2.2.1 ∧ i.2.2.2.2 = at_ + (rList rCo (bs.drop at_)).k) ∧ Hp w0 w' ([(b, cel [.slice p bs.length c, .int .i64 (i.2.2.2.2 : Nat)] T)] :: s :: i.2.2.2.1 :: [(br, cel [.pointer (some ⟨b, 0, none⟩)] Tr)] :: [(bo, cel [.func (.func 30) #[.pointer (some ⟨b, 0, none⟩)] #[]] To)] :: F) := by
  refine Calls.of_J (n := 34) Tryd.func91 rfl rfl rfl ?_
  refine J.seq ?_
  refine J.region ?_
  refine JL.go trivial (RX.assign) ?_
  refine JL.go trivial (RX.assign) ?_
  refine JL.nil ?_
  refine J.seq ?_
  refine J.region ?_
  refine JL.go trivial (by first | exact RX.load H rfl (i := 0) rfl rfl one42 | exact RX.load H rfl (i := 1) rfl rfl one42 | exact RX.load H rfl (i := 2) rfl rfl one42 | exact RX.load H rfl (i := 3) rfl rfl one42 | exact RX.load H rfl (i := 4) rfl rfl one42 | exact RX.load H rfl (i := 5) rfl rfl one42) ?_
  refine JL.does trivial (EX.call rfl cl57 rfl ((rUpto_c ((H.pull 3 rfl).pull 3 rfl) ho hat hl hE.cons.cons (most := 1048576) (by decide) (by decide)))) ?_
  rintro _ w ⟨rfl, H⟩
  have hg := rUp_good 1048576 (bs.drop at_)
  have hie := er_ie hE (n := (rUp 1048576 (bs.drop at_)).code) hg.1.code
  have hu1 := hg.1.k
  rw [List.length_drop] at hu1
  refine JL.go trivial (RX.movev (v := Value.tuple _) rfl) ?_
  refine JL.go trivial (RX.extract rfl rfl) ?_
  refine JL.go trivial (RX.extract (v := errV E (rUp 1048576 (bs.drop at_)).code) rfl rfl) ?_
  refine JL.go trivial (RX.assignv (v := Value.int _ _) rfl) ?_
  refine JL.go trivial (RX.assignv (v := errV E (rUp 1048576 (bs.drop at_)).code) rfl) ?_
  refine JL.nil ?_
  refine J.seq ?_
  refine J.seq ?_
  refine J.region ?_
  refine JL.go trivial (RX.movev (v := errV E (rUp 1048576 (bs.drop at_)).code) rfl) ?_
  refine JL.go trivial (RX.ifnil_neq (v := errV E (rUp 1048576 (bs.drop at_)).code) rfl rfl hie.1 if40) ?_
  refine JL.nil ?_
  refine J.cond rfl (fun hz => ?_) (fun hz => ?_)
  · skip
    have hz0 : ¬ (rUp 1048576 (bs.drop at_)).code = 0 := by rw [hie.2] at hz; simpa using hz
    obtain ⟨e, he, he1, _⟩ := hg.1.of_err hz0
    have hf : rList rCo (bs.drop at_) = .err e := by rw [rList, he]
    refine J.seq ?_
    refine J.region ?_
    refine JL.go trivial (RX.movev (v := errV E (rUp 1048576 (bs.drop at_)).code) rfl) ?_
    refine JL.go trivial (RX.assign) ?_
    refine JL.go trivial (RX.assignv (v := errV E (rUp 1048576 (bs.drop at_)).code) rfl) ?_
    refine JL.nil ?_
    refine J.ret2 (v := Value.slice _ _ _) Tryd.func91 rfl rfl rfl ?_
    rw [hf]
    exact ⟨_, rfl, (none, 0, 0, [], at_ + (rUp 1048576 (bs.drop at_)).k), by rw [he]; rfl, fun h => (by simp only [Rs.code_err] at h; omega), (H.nil.pull 2 rfl).pull 2 rfl⟩
  · skip
    have hz0 : (rUp 1048576 (bs.drop at_)).code = 0 := by rw [hie.2] at hz; simpa using hz
    obtain ⟨n, k0, hu, hkl⟩ := hg.1.of_ok hz0
    have hup := hg.2 n k0 hu
    rw [hu] at H hu1 ⊢
    simp only [Rs.val_ok, Rs.k_ok, Rs.code_ok, Rs.val_err, Rs.k_err, Rs.code_err] at H hu1 ⊢
    have hli : rList rCo (bs.drop at_) = (match rMany rCo n (bs.drop (at_ + k0)) with | .err e => .err e | .ok ys m => .ok ys (k0 + m)) := by
      simp only [rList, hu]
      rw [List.drop_drop]
      cases rMany rCo n (bs.drop (at_ + k0)) <;> rfl
    refine J.skip ?_
    refine J.seq ?_
    refine J.region ?_
    refine JL.go trivial (RX.assign) ?_
    refine JL.nil ?_
    refine J.seq ?_
    refine J.seq ?_
    refine J.region ?_
    refine JL.go trivial (RX.movev (v := Value.int _ _) rfl) ?_
    refine JL.go trivial (RX.move) ?_
    refine JL.nil ?_
    refine J.block ?_
    refine J.loop (ι := List (Nat × Nat) × Nat × Option Addr × Nat × Seg) (S := fun q => [(18, .int .i64 (q.1.length : Nat)), (6, .slice q.2.2.1 q.1.length q.2.2.2.1)]) (Φ := fun q w => q.1.length ≤ n ∧ at_ + k0 + q.2.1 ≤ bs.length ∧ rMany rCo n (bs.drop (at_ + k0)) = rManyA rCo (n - q.1.length) q.1 q.2.1 (bs.drop (at_ + k0 + q.2.1)) ∧ OwnSl 38 1 q.2.2.1 q.1.length q.2.2.2.1 (cVs q.1) q.2.2.2.2 ∧ Hp w0 w ([(b, cel [.slice p bs.length c, .int .i64 (at_ + k0 + q.2.1 : Nat)] T)] :: s :: q.2.2.2.2 :: [(br, cel [.pointer (some ⟨b, 0, none⟩)] Tr)] :: [(bo, cel [.func (.func 30) #[.pointer (some ⟨b, 0, none⟩)] #[]] To)] :: F)) (μ := fun q => n - q.1.length) (C := [(1, _), (17, _)]) ([], 0, none, 0, []) ⟨rfl, rfl, trivial⟩ ⟨rfl, rfl, trivial⟩ ?_ ?_
    · exact ⟨by simp, by simp only; omega, by rw [rMany_A]; rfl, OwnSl.nil, (H.nil.pull 2 rfl).pull 2 rfl⟩
    clear H
    rintro ⟨acc, ka, p2, c2, s2⟩ ρ w ⟨hi, hka, hmany, hos, H⟩ IH
    simp only at hi hka hmany hos H
    dsimp only
    refine J.seq ?_
    refine J.region ?_
    refine JL.go trivial (RX.lt rfl rfl) ?_
    refine JL.nil ?_
    refine J.seq ?_
    refine J.cond_d rfl (fun hlt => ?_) (fun hlt => ?_)
    · skip
      refine J.skip ?_
      refine J.seq ?_
      refine J.block ?_
      refine J.seq ?_
      refine J.region ?_
      refine JL.go trivial (by first | exact RX.load H rfl (i := 0) rfl rfl one66 | exact RX.load H rfl (i := 1) rfl rfl one66 | exact RX.load H rfl (i := 2) rfl rfl one66 | exact RX.load H rfl (i := 3) rfl rfl one66 | exact RX.load H rfl (i := 4) rfl rfl one66 | exact RX.load H rfl (i := 5) rfl rfl one66) ?_
      refine JL.does trivial (EX.callv (f := 30) (fv := [.pointer (some ⟨b, 0, none⟩)]) (cv := []) rfl cl30 rfl rfl (rComplex_c H ho hka hl hE.cons.cons.cons)) ?_
      rintro _ w ⟨rfl, H⟩
      have hie2 := er_ie hE (n := (rCo (bs.drop (at_ + k0 + ka))).code) (rCo_g _).code
      have hk2 := (rCo_g (bs.drop (at_ + k0 + ka))).k
      rw [List.length_drop] at hk2
      refine JL.go trivial (RX.movev (v := Value.tuple _) rfl) ?_
      refine JL.go trivial (RX.extract rfl rfl) ?_
      refine JL.go trivial (RX.extract (v := errV E (rCo (bs.drop (at_ + k0 + ka))).code) rfl rfl) ?_
      refine JL.go trivial (RX.assignv (v := Value.complex _ _ _) rfl) ?_
      refine JL.go trivial (RX.assignv (v := errV E (rCo (bs.drop (at_ + k0 + ka))).code) rfl) ?_
      refine JL.nil ?_
      refine J.seq ?_
      refine J.seq ?_
      refine J.region ?_
      refine JL.go trivial (RX.movev (v := errV E (rCo (bs.drop (at_ + k0 + ka))).code) rfl) ?_
      refine JL.go trivial (RX.ifnil_neq (v := errV E (rCo (bs.drop (at_ + k0 + ka))).code) rfl rfl hie2.1 if40) ?_
      refine JL.nil ?_
      refine J.cond rfl (fun hz2 => ?_) (fun hz2 => ?_)
      · skip
        have hz3 : ¬ (rCo (bs.drop (at_ + k0 + ka))).code = 0 := by rw [hie2.2] at hz2; simpa using hz2
        obtain ⟨e, he, he1, _⟩ := (rCo_g _).of_err hz3
        have hf : rList rCo (bs.drop at_) = .err e := by rw [hli, hmany, rManyA_err (by omega) he]
        refine J.seq ?_
        refine J.region ?_
        refine JL.go trivial (RX.movev (v := errV E (rCo (bs.drop (at_ + k0 + ka))).code) rfl) ?_
        refine JL.go trivial (RX.assign) ?_
        refine JL.go trivial (RX.assignv (v := errV E (rCo (bs.drop (at_ + k0 + ka))).code) rfl) ?_
        refine JL.nil ?_
        refine J.ret2 (v := Value.slice _ _ _) Tryd.func91 rfl rfl rfl ?_
        rw [hf]
        exact ⟨_, rfl, (none, 0, 0, s2, at_ + k0 + ka + (rCo (bs.drop (at_ + k0 + ka))).k), by rw [he]; rfl, fun h => (by simp only [Rs.code_err] at h; omega), H⟩
      · skip
        have hz3 : (rCo (bs.drop (at_ + k0 + ka))).code = 0 := by rw [hie2.2] at hz2; simpa using hz2
        obtain ⟨a, k1, he, _⟩ := (rCo_g _).of_ok hz3
        rw [he] at H hk2 ⊢
        simp only [Rs.val_ok, Rs.k_ok, Rs.code_ok, Rs.val_err, Rs.k_err, Rs.code_err] at H hk2 ⊢
        refine J.skip ?_
        refine J.region ?_
        refine JL.go trivial (RX.movev (v := Value.slice _ _ _) rfl) ?_
        refine JL.go trivial (RX.movev (v := Value.complex _ _ _) rfl) ?_
        refine JL.does trivial (EX.buildSlice1 H elC rfl rfl) ?_
        rintro _ w ⟨b2, rfl, H⟩
        refine JL.does trivial (EX.append (ys := [cV a]) (L' := fun s' => [(b2, cel [cV a] 38)] :: [(b, cel [.slice p bs.length c, .int .i64 (at_ + k0 + ka + k1 : Nat)] T)] :: s :: s' :: [(br, cel [.pointer (some ⟨b, 0, none⟩)] Tr)] :: [(bo, cel [.func (.func 30) #[.pointer (some ⟨b, 0, none⟩)] #[]] To)] :: F) H elC rfl rfl (i := 3) rfl hos (SlAt.here rfl) rfl (by simp [isCell, cV]) (by decide) (by omega) (by omega) (fun _ => rfl)) ?_
        rintro _ w ⟨p3, c3, s3, rfl, hos3, H⟩
        refine JL.go trivial (RX.assignv (v := Value.slice _ _ _) rfl) ?_
        refine JL.nil ?_
        refine J.inBlock ?_
        refine J.region ?_
        refine JL.go trivial (RX.add rfl rfl (w_i64 rfl (by omega) (by omega))) ?_
        refine JL.go trivial (RX.movev (v := Value.int _ _) rfl) ?_
        refine JL.nil ?_
        exact IH (acc ++ [a], ka + k1, p3, c3, s3) _ _ (by simp only [List.length_append, List.length_singleton]; omega) ⟨rfl, rfl, trivial⟩ ⟨(show Value.int .i64 ((acc.length : Int) + 1) = Value.int .i64 ((acc ++ [a]).length : Nat) by simp), (show Value.slice p3 (acc.length + 1) c3 = Value.slice p3 (acc ++ [a]).length c3 by simp), trivial⟩ ⟨by simp only [List.length_append, List.length_singleton]; omega, by simp only; omega, by simp only; rw [hmany, rManyA_ok (by omega) he, List.drop_drop, List.length_append, List.length_singleton, Nat.add_assoc, Nat.sub_sub], by simp only [List.length_append, List.length_singleton, cVs, List.map_append]; exact hos3, by simpa [Nat.add_assoc] using H.drop⟩
    · skip
      refine J.exit rfl ?_
      refine J.seq ?_
      refine J.region ?_
      refine JL.go trivial (RX.movev (v := Value.slice _ _ _) rfl) ?_
      refine JL.go trivial (RX.assignv (v := Value.slice _ _ _) rfl) ?_
      refine JL.go trivial (RX.assign) ?_
      refine JL.nil ?_
      refine J.ret2 (v := Value.slice _ _ _) Tryd.func91 rfl rfl rfl ?_
      have hln : acc.length = n := by omega
      have hf : rList rCo (bs.drop at_) = .ok acc (k0 + ka) := by rw [hli, hmany, hln, Nat.sub_self]; rfl
      rw [hf]
      exact ⟨_, rfl, (p2, acc.length, c2, s2, at_ + k0 + ka), rfl, fun _ => ⟨rfl, hos, by simp only [Rs.k_ok]; omega⟩, H⟩
theorem rall_lc {w0 w : World} {F : List Seg} {b T c at_ : Nat} {p : Option Addr} {s : Seg} {bs : List UInt8} {E : Nat → Value} (H : Hp w0 w ([(b, cel [.slice p bs.length c, .int .i64 (at_ : Nat)] T)] :: s :: F)) (ho : OwnSl 5 1 p bs.length c (bv bs) s) (hat : at_ ≤ bs.length) (hl : bs.length ≤ 1099511627776) (hE : Er F E) : Ret Tryd.prog 55 [.pointer (some ⟨b, 0, none⟩), .func (.func 30) #[.pointer (some ⟨b, 0, none⟩)] #[]] w fun v w' => ∃ p2 c2 s2, v = .tuple #[.slice p2 ((rList rCo (bs.drop at_)).val []).length c2, errV E (rList rCo (bs.drop at_)).code] ∧ OwnSl 38 1 p2 ((rList rCo (bs.drop at_)).val []).length c2 (cVs ((rList rCo (bs.drop at_)).val [])) s2 ∧ Hp w0 w' (s2 :: [(b, cel [.slice p bs.length c, .int .i64 (at_ + (rList rCo (bs.drop at_)).k : Nat)] T)] :: s :: F) := by
  refine Calls.of_J (n := 11) Tryd.func55 rfl rfl rfl ?_
  refine J.seq ?_
  refine J.region ?_
  refine JL.does trivial (EX.box (v := Value.pointer _) H rfl rfl) ?_
  rintro _ w ⟨br, rfl, H⟩
  refine JL.does trivial (EX.box (v := Value.func _ _ _) H rfl rfl) ?_
  rintro _ w ⟨bo, rfl, H⟩
  refine JL.go trivial (RX.assign) ?_
  refine JL.go trivial (RX.assign) ?_
  refine JL.nil ?_
  refine J.seq ?_
  refine J.region ?_
  refine JL.go trivial (by first | exact RX.load H rfl (i := 0) rfl rfl one42 | exact RX.load H rfl (i := 1) rfl rfl one42 | exact RX.load H rfl (i := 2) rfl rfl one42 | exact RX.load H rfl (i := 3) rfl rfl one42) ?_
  refine JL.go trivial (RX.makeFunc rfl rfl) ?_
  refine JL.does trivial (EX.call rfl cl90 rfl ((whole_lc (g := 91) (cv := [.pointer (some ⟨br, 0, none⟩), .pointer (some ⟨bo, 0, none⟩)]) (val := fun i : Option Addr × Nat × Nat × Seg × Nat => .slice i.1 i.2.1 i.2.2.1) (at2 := fun i => i.2.2.2.2) (G := fun i => s :: i.2.2.2.1 :: [(br, cel [.pointer (some ⟨b, 0, none⟩)] _)] :: [(bo, cel [.func (.func 30) #[.pointer (some ⟨b, 0, none⟩)] #[]] _)] :: F) (Φ := fun i => (rList rCo (bs.drop at_)).code = 0 → i.2.1 = ((rList rCo (bs.drop at_)).val []).length ∧ OwnSl 38 1 i.1 i.2.1 i.2.2.1 (cVs ((rList rCo (bs.drop at_)).val [])) i.2.2.2.1 ∧ i.2.2.2.2 = at_ + (rList rCo (bs.drop at_)).k) (H.pull 2 rfl) hE (rList_good rCo_g _).1.code cl91 (all_lc (H.pull 1 rfl) ho hat hl hE)))) ?_
  rintro _ w ⟨i, rfl, hi, H⟩
  obtain ⟨p2, c2, s2, hv, ho2, H⟩ : ∃ p2 c2 s2, (if (rList rCo (bs.drop at_)).code = 0 then Value.slice i.1 i.2.1 i.2.2.1 else .slice none 0 0) = .slice p2 ((rList rCo (bs.drop at_)).val []).length c2 ∧ OwnSl 38 1 p2 ((rList rCo (bs.drop at_)).val []).length c2 (cVs ((rList rCo (bs.drop at_)).val [])) s2 ∧ Hp w0 w (s2 :: [(b, cel [.slice p bs.length c, .int .i64 (at_ + (rList rCo (bs.drop at_)).k : Nat)] T)] :: s :: F) := by
    have H1 := (((H.pull 3 rfl).drop).pull 3 rfl).drop
    by_cases h0 : (rList rCo (bs.drop at_)).code = 0
    · obtain ⟨h1, h2, h3⟩ := hi h0
      rw [if_pos h0, h3] at H1
      rw [if_pos h0, ← h1]
      exact ⟨_, _, _, rfl, h2, H1.pull 2 rfl⟩
    · obtain ⟨e, he, _⟩ := (rList_good rCo_g _).1.of_err h0
      rw [if_neg h0] at H1
      rw [if_neg h0, he]
      exact ⟨none, 0, [], rfl, OwnSl.nil, ((H1.pull 2 rfl).drop).nil⟩
  rw [hv]
  refine JL.go trivial (RX.extract rfl rfl) ?_
  refine JL.go trivial (RX.extract (v := errV E (rList rCo (bs.drop at_)).code) rfl rfl) ?_
  refine JL.go trivial (RX.assignv (v := Value.slice _ _ _) rfl) ?_
  refine JL.go trivial (RX.assignv (v := errV E (rList rCo (bs.drop at_)).code) rfl) ?_
  refine JL.nil ?_
  refine J.ret2 (v := Value.slice _ _ _) Tryd.func55 rfl rfl rfl ?_
  exact ⟨_, rfl, p2, c2, s2, rfl, ho2, H⟩
theorem rList_c {w0 w : World} {F : List Seg} {b T c at_ : Nat} {p : Option Addr} {s : Seg} {bs : List UInt8} {E : Nat → Value} (H : Hp w0 w ([(b, cel [.slice p bs.length c, .int .i64 (at_ : Nat)] T)] :: s :: F)) (ho : OwnSl 5 1 p bs.length c (bv bs) s) (hat : at_ ≤ bs.length) (hl : bs.length ≤ 1099511627776) (hE : Er F E) : Ret Tryd.prog 17 [.pointer (some ⟨b, 0, none⟩)] w fun v w' => ∃ p2 c2 s2, v = .tuple #[.slice p2 ((rList rCo (bs.drop at_)).val []).length c2, errV E (rList rCo (bs.drop at_)).code] ∧ OwnSl 38 1 p2 ((rList rCo (bs.drop at_)).val []).length c2 (cVs ((rList rCo (bs.drop at_)).val [])) s2 ∧ Hp w0 w' (s2 :: [(b, cel [.slice p bs.length c, .int .i64 (at_ + (rList rCo (bs.drop at_)).k : Nat)] T)] :: s :: F) := by
  refine Calls.of_J (n := 10) Tryd.func17 rfl rfl rfl ?_
  refine J.seq ?_
  refine J.region ?_
  refine JL.go trivial (RX.assign) ?_
  refine JL.go trivial (RX.assign) ?_
  refine JL.nil ?_
  refine J.seq ?_
  refine J.region ?_
  refine JL.go trivial (RX.movev (v := Value.pointer _) rfl) ?_
  refine JL.go trivial (RX.movev (v := Value.pointer _) rfl) ?_
  refine JL.go trivial (RX.makeFunc rfl rfl) ?_
  refine JL.does trivial (EX.call rfl cl55 rfl ((rall_lc H ho hat hl hE))) ?_
  rintro _ w ⟨p2, c2, s2, rfl, ho2, H⟩
  refine JL.go trivial (RX.extract rfl rfl) ?_
  refine JL.go trivial (RX.extract (v := errV E (rList rCo (bs.drop at_)).code) rfl rfl) ?_
  refine JL.go trivial (RX.assignv (v := Value.slice _ _ _) rfl) ?_
  refine JL.go trivial (RX.assignv (v := errV E (rList rCo (bs.drop at_)).code) rfl) ?_
  refine JL.nil ?_
  refine J.ret2 (v := Value.slice _ _ _) Tryd.func17 rfl rfl rfl ?_
  exact ⟨_, rfl, p2, c2, s2, rfl, ho2, H⟩
theorem all_lf {w0 w : World} {F : List Seg} {b T c at_ : Nat} {p : Option Addr} {s : Seg} {bs : List UInt8} {E : Nat → Value} {br bo Tr To : Nat} (H : Hp w0 w ([(br, cel [.pointer (some ⟨b, 0, none⟩)] Tr)] :: [(bo, cel [.func (.func 28) #[.pointer (some ⟨b, 0, none⟩)] #[]] To)] :: [(b, cel [.slice p bs.length c, .int .i64 (at_ : Nat)] T)] :: s :: F)) (ho : OwnSl 5 1 p bs.length c (bv bs) s) (hat : at_ ≤ bs.length) (hl : bs.length ≤ 1099511627776) (hE : Er F E) : Ret Tryd.prog 101 [.pointer (some ⟨br, 0, none⟩), .pointer (some ⟨bo, 0, none⟩)] w fun v w' => ∃ i : Option Addr × Nat × Nat × Seg × Nat, v = .tuple #[.slice i.1 i.2.1 i.2.2.1, errV E (rList rFl (bs.drop at_)).code] ∧ ((rList rFl (bs.drop at_)).code = 0 → i.2.1 = ((rList rFl (bs.drop at_)).val []).length ∧ OwnSl 61 1 i.1 i.2.1 i.2.2.1 (fVs ((rList rFl (bs.drop at_)).val [])) i.2.2.2.1 ∧ i.2.2.2.2 = at_ + (rList rFl (bs.drop at_)).k) ∧ Hp w0 w' ([(b, cel [.slice p bs.length c, .int .i64 (i.2.2.2.2 : Nat)] T)] :: s :: i.2.2.2.1 :: [(br, cel [.pointer (some ⟨b, 0, none⟩)] Tr)] :: [(bo, cel [.func (.func 28) #[.pointer (some ⟨b, 0, none⟩)] #[]] To)] :: F) := by
  refine Calls.of_J (n := 34) Tryd.func101 rfl rfl rfl ?_
  refine J.seq ?_
  refine J.region ?_
  refine JL.go trivial (RX.assign) ?_
  refine JL.go trivial (RX.assign) ?_
  refine JL.nil ?_
  refine J.seq ?_
  refine J.region ?_
  refine JL.go trivial (by first | exact RX.load H rfl (i := 0) rfl rfl one42 | exact RX.load H rfl (i := 1) rfl rfl one42 | exact RX.load H rfl (i := 2) rfl rfl one42 | exact RX.load H rfl (i := 3) rfl rfl one42 | exact RX.load H rfl (i := 4) rfl rfl one42 | exact RX.load H rfl (i := 5) rfl rfl one42) ?_
  refine JL.does trivial (EX.call rfl cl57 rfl ((rUpto_c ((H.pull 3 rfl).pull 3 rfl) ho hat hl hE.cons.cons (most := 1048576) (by decide) (by decide)))) ?_
  rintro _ w ⟨rfl, H⟩
  have hg := rUp_good 1048576 (bs.drop at_)
  have hie := er_ie hE (n := (rUp 1048576 (bs.drop at_)).code) hg.1.code
  have hu1 := hg.1.k
  rw [List.length_drop] at hu1
  refine JL.go trivial (RX.movev (v := Value.tuple _) rfl) ?_
  refine JL.go trivial (RX.extract rfl rfl) ?_
  refine JL.go trivial (RX.extract (v := errV E (rUp 1048576 (bs.drop at_)).code) rfl rfl) ?_
  refine JL.go trivial (RX.assignv (v := Value.int _ _) rfl) ?_
  refine JL.go trivial (RX.assignv (v := errV E (rUp 1048576 (bs.drop at_)).code) rfl) ?_
  refine JL.nil ?_
  refine J.seq ?_
  refine J.seq ?_
  refine J.region ?_
  refine JL.go trivial (RX.movev (v := errV E (rUp 1048576 (bs.drop at_)).code) rfl) ?_
  refine JL.go trivial (RX.ifnil_neq (v := errV E (rUp 1048576 (bs.drop at_)).code) rfl rfl hie.1 if40) ?_
  refine JL.nil ?_
  refine J.cond rfl (fun hz => ?_) (fun hz => ?_)
  · skip
    have hz0 : ¬ (rUp 1048576 (bs.drop at_)).code = 0 := by rw [hie.2] at hz; simpa using hz
    obtain ⟨e, he, he1, _⟩ := hg.1.of_err hz0
    have hf : rList rFl (bs.drop at_) = .err e := by rw [rList, he]
    refine J.seq ?_
    refine J.region ?_
    refine JL.go trivial (RX.movev (v := errV E (rUp 1048576 (bs.drop at_)).code) rfl) ?_
    refine JL.go trivial (RX.assign) ?_
    refine JL.go trivial (RX.assignv (v := errV E (rUp 1048576 (bs.drop at_)).code) rfl) ?_
    refine JL.nil ?_
    refine J.ret2 (v := Value.slice _ _ _) Tryd.func101 rfl rfl rfl ?_
    rw [hf]
    exact ⟨_, rfl, (none, 0, 0, [], at_ + (rUp 1048576 (bs.drop at_)).k), by rw [he]; rfl, fun h => (by simp only [Rs.code_err] at h; omega), (H.nil.pull 2 rfl).pull 2 rfl⟩
  · skip
    have hz0 : (rUp 1048576 (bs.drop at_)).code = 0 := by rw [hie.2] at hz; simpa using hz
    obtain ⟨n, k0, hu, hkl⟩ := hg.1.of_ok hz0
    have hup := hg.2 n k0 hu
    rw [hu] at H hu1 ⊢
    simp only [Rs.val_ok, Rs.k_ok, Rs.code_ok, Rs.val_err, Rs.k_err, Rs.code_err] at H hu1 ⊢
    have hli : rList rFl (bs.drop at_) = (match rMany rFl n (bs.drop (at_ + k0)) with | .err e => .err e | .ok ys m => .ok ys (k0 + m)) := by
      simp only [rList, hu]
      rw [List.drop_drop]
      cases rMany rFl n (bs.drop (at_ + k0)) <;> rfl
    refine J.skip ?_
    refine J.seq ?_
    refine J.region ?_
    refine JL.go trivial (RX.assign) ?_
    refine JL.nil ?_
    refine J.seq ?_
    refine J.seq ?_
    refine J.region ?_
    refine JL.go trivial (RX.movev (v := Value.int _ _) rfl) ?_
    refine JL.go trivial (RX.move) ?_
    refine JL.nil ?_
    refine J.block ?_
    refine J.loop (ι := List (Nat) × Nat × Option Addr × Nat × Seg) (S := fun q => [(18, .int .i64 (q.1.length : Nat)), (6, .slice q.2.2.1 q.1.length q.2.2.2.1)]) (Φ := fun q w => q.1.length ≤ n ∧ at_ + k0 + q.2.1 ≤ bs.length ∧ rMany rFl n (bs.drop (at_ + k0)) = rManyA rFl (n - q.1.length) q.1 q.2.1 (bs.drop (at_ + k0 + q.2.1)) ∧ OwnSl 61 1 q.2.2.1 q.1.length q.2.2.2.1 (fVs q.1) q.2.2.2.2 ∧ Hp w0 w ([(b, cel [.slice p bs.length c, .int .i64 (at_ + k0 + q.2.1 : Nat)] T)] :: s :: q.2.2.2.2 :: [(br, cel [.pointer (some ⟨b, 0, none⟩)] Tr)] :: [(bo, cel [.func (.func 28) #[.pointer (some ⟨b, 0, none⟩)] #[]] To)] :: F)) (μ := fun q => n - q.1.length) (C := [(1, _), (17, _)]) ([], 0, none, 0, []) ⟨rfl, rfl, trivial⟩ ⟨rfl, rfl, trivial⟩ ?_ ?_
    · exact ⟨by simp, by simp only; omega, by rw [rMany_A]; rfl, OwnSl.nil, (H.nil.pull 2 rfl).pull 2 rfl⟩
    clear H
    rintro ⟨acc, ka, p2, c2, s2⟩ ρ w ⟨hi, hka, hmany, hos, H⟩ IH
    simp only at hi hka hmany hos H
    dsimp only
    refine J.seq ?_
    refine J.region ?_
    refine JL.go trivial (RX.lt rfl rfl) ?_
    refine JL.nil ?_
    refine J.seq ?_
    refine J.cond_d rfl (fun hlt => ?_) (fun hlt => ?_)
    · skip
      refine J.skip ?_
      refine J.seq ?_
      refine J.block ?_
      refine J.seq ?_
      refine J.region ?_
      refine JL.go trivial (by first | exact RX.load H rfl (i := 0) rfl rfl one63 | exact RX.load H rfl (i := 1) rfl rfl one63 | exact RX.load H rfl (i := 2) rfl rfl one63 | exact RX.load H rfl (i := 3) rfl rfl one63 | exact RX.load H rfl (i := 4) rfl rfl one63 | exact RX.load H rfl (i := 5) rfl rfl one63) ?_
      refine JL.does trivial (EX.callv (f := 28) (fv := [.pointer (some ⟨b, 0, none⟩)]) (cv := []) rfl cl28 rfl rfl (rFloat_c H ho hka hl hE.cons.cons.cons)) ?_
      rintro _ w ⟨rfl, H⟩
      have hie2 := er_ie hE (n := (rFl (bs.drop (at_ + k0 + ka))).code) (rFl_g _).code
      have hk2 := (rFl_g (bs.drop (at_ + k0 + ka))).k
      rw [List.length_drop] at hk2
      refine JL.go trivial (RX.movev (v := Value.tuple _) rfl) ?_
      refine JL.go trivial (RX.extract rfl rfl) ?_
      refine JL.go trivial (RX.extract (v := errV E (rFl (bs.drop (at_ + k0 + ka))).code) rfl rfl) ?_
      refine JL.go trivial (RX.assignv (v := Value.float _ _) rfl) ?_
      refine JL.go trivial (RX.assignv (v := errV E (rFl (bs.drop (at_ + k0 + ka))).code) rfl) ?_
      refine JL.nil ?_
      refine J.seq ?_
      refine J.seq ?_
      refine J.region ?_
      refine JL.go trivial (RX.movev (v := errV E (rFl (bs.drop (at_ + k0 + ka))).code) rfl) ?_
      refine JL.go trivial (RX.ifnil_neq (v := errV E (rFl (bs.drop (at_ + k0 + ka))).code) rfl rfl hie2.1 if40) ?_
      refine JL.nil ?_
      refine J.cond rfl (fun hz2 => ?_) (fun hz2 => ?_)
      · skip
        have hz3 : ¬ (rFl (bs.drop (at_ + k0 + ka))).code = 0 := by rw [hie2.2] at hz2; simpa using hz2
        obtain ⟨e, he, he1, _⟩ := (rFl_g _).of_err hz3
        have hf : rList rFl (bs.drop at_) = .err e := by rw [hli, hmany, rManyA_err (by omega) he]
        refine J.seq ?_
        refine J.region ?_
        refine JL.go trivial (RX.movev (v := errV E (rFl (bs.drop (at_ + k0 + ka))).code) rfl) ?_
        refine JL.go trivial (RX.assign) ?_
        refine JL.go trivial (RX.assignv (v := errV E (rFl (bs.drop (at_ + k0 + ka))).code) rfl) ?_
        refine JL.nil ?_
        refine J.ret2 (v := Value.slice _ _ _) Tryd.func101 rfl rfl rfl ?_
        rw [hf]
        exact ⟨_, rfl, (none, 0, 0, s2, at_ + k0 + ka + (rFl (bs.drop (at_ + k0 + ka))).k), by rw [he]; rfl, fun h => (by simp only [Rs.code_err] at h; omega), H⟩
      · skip
        have hz3 : (rFl (bs.drop (at_ + k0 + ka))).code = 0 := by rw [hie2.2] at hz2; simpa using hz2
        obtain ⟨a, k1, he, _⟩ := (rFl_g _).of_ok hz3
        rw [he] at H hk2 ⊢
        simp only [Rs.val_ok, Rs.k_ok, Rs.code_ok, Rs.val_err, Rs.k_err, Rs.code_err] at H hk2 ⊢
        refine J.skip ?_
        refine J.region ?_
        refine JL.go trivial (RX.movev (v := Value.slice _ _ _) rfl) ?_
        refine JL.go trivial (RX.movev (v := Value.float _ _) rfl) ?_
        refine JL.does trivial (EX.buildSlice1 H elF rfl rfl) ?_
        rintro _ w ⟨b2, rfl, H⟩
        refine JL.does trivial (EX.append (ys := [fV a]) (L' := fun s' => [(b2, cel [fV a] 61)] :: [(b, cel [.slice p bs.length c, .int .i64 (at_ + k0 + ka + k1 : Nat)] T)] :: s :: s' :: [(br, cel [.pointer (some ⟨b, 0, none⟩)] Tr)] :: [(bo, cel [.func (.func 28) #[.pointer (some ⟨b, 0, none⟩)] #[]] To)] :: F) H elF rfl rfl (i := 3) rfl hos (SlAt.here rfl) rfl (by simp [isCell, fV]) (by decide) (by omega) (by omega) (fun _ => rfl)) ?_
        rintro _ w ⟨p3, c3, s3, rfl, hos3, H⟩
        refine JL.go trivial (RX.assignv (v := Value.slice _ _ _) rfl) ?_
        refine JL.nil ?_
        refine J.inBlock ?_
        refine J.region ?_
        refine JL.go trivial (RX.add rfl rfl (w_i64 rfl (by omega) (by omega))) ?_
        refine JL.go trivial (RX.movev (v := Value.int _ _) rfl) ?_
        refine JL.nil ?_
        exact IH (acc ++ [a], ka + k1, p3, c3, s3) _ _ (by simp only [List.length_append, List.length_singleton]; omega) ⟨rfl, rfl, trivial⟩ ⟨(show Value.int .i64 ((acc.length : Int) + 1) = Value.int .i64 ((acc ++ [a]).length : Nat) by simp), (show Value.slice p3 (acc.length + 1) c3 = Value.slice p3 (acc ++ [a]).length c3 by simp), trivial⟩ ⟨by simp only [List.length_append, List.length_singleton]; omega, by simp only; omega, by simp only; rw [hmany, rManyA_ok (by omega) he, List.drop_drop, List.length_append, List.length_singleton, Nat.add_assoc, Nat.sub_sub], by simp only [List.length_append, List.length_singleton, fVs, List.map_append]; exact hos3, by simpa [Nat.add_assoc] using H.drop⟩
    · skip
      refine J.exit rfl ?_
      refine J.seq ?_
      refine J.region ?_
      refine JL.go trivial (RX.movev (v := Value.slice _ _ _) rfl) ?_
      refine JL.go trivial (RX.assignv (v := Value.slice _ _ _) rfl) ?_
      refine JL.go trivial (RX.assign) ?_
      refine JL.nil ?_
      refine J.ret2 (v := Value.slice _ _ _) Tryd.func101 rfl rfl rfl ?_
      have hln : acc.length = n := by omega
      have hf : rList rFl (bs.drop at_) = .ok acc (k0 + ka) := by rw [hli, hmany, hln, Nat.sub_self]; rfl
      rw [hf]
      exact ⟨_, rfl, (p2, acc.length, c2, s2, at_ + k0 + ka), rfl, fun _ => ⟨rfl, hos, by simp only [Rs.k_ok]; omega⟩, H⟩
theorem rall_lf {w0 w : World} {F : List Seg} {b T c at_ : Nat} {p : Option Addr} {s : Seg} {bs : List UInt8} {E : Nat → Value} (H : Hp w0 w ([(b, cel [.slice p bs.length c, .int .i64 (at_ : Nat)] T)] :: s :: F)) (ho : OwnSl 5 1 p bs.length c (bv bs) s) (hat : at_ ≤ bs.length) (hl : bs.length ≤ 1099511627776) (hE : Er F E) : Ret Tryd.prog 84 [.pointer (some ⟨b, 0, none⟩), .func (.func 28) #[.pointer (some ⟨b, 0, none⟩)] #[]] w fun v w' => ∃ p2 c2 s2, v = .tuple #[.slice p2 ((rList rFl (bs.drop at_)).val []).length c2, errV E (rList rFl (bs.drop at_)).code] ∧ OwnSl 61 1 p2 ((rList rFl (bs.drop at_)).val []).length c2 (fVs ((rList rFl (bs.drop at_)).val [])) s2 ∧ Hp w0 w' (s2 :: [(b, cel [.slice p bs.length c, .int .i64 (at_ + (rList rFl (bs.drop at_)).k : Nat)] T)] :: s :: F) := by
  refine Calls.of_J (n := 11) Tryd.func84 rfl rfl rfl ?_
  refine J.seq ?_
  refine J.region ?_
  refine JL.does trivial (EX.box (v := Value.pointer _) H rfl rfl) ?_
  rintro _ w ⟨br, rfl, H⟩
  refine JL.does trivial (EX.box (v := Value.func _ _ _) H rfl rfl) ?_
  rintro _ w ⟨bo, rfl, H⟩
  refine JL.go trivial (RX.assign) ?_
  refine JL.go trivial (RX.assign) ?_
  refine JL.nil ?_
  refine J.seq ?_
  refine J.region ?_
  refine JL.go trivial (by first | exact RX.load H rfl (i := 0) rfl rfl one42 | exact RX.load H rfl (i := 1) rfl rfl one42 | exact RX.load H rfl (i := 2) rfl rfl one42 | exact RX.load H rfl (i := 3) rfl rfl one42) ?_
  refine JL.go trivial (RX.makeFunc rfl rfl) ?_
  refine JL.does trivial (EX.call rfl cl100 rfl ((whole_lf (g := 101) (cv := [.pointer (some ⟨br, 0, none⟩), .pointer (some ⟨bo, 0, none⟩)]) (val := fun i : Option Addr × Nat × Nat × Seg × Nat => .slice i.1 i.2.1 i.2.2.1) (at2 := fun i => i.2.2.2.2) (G := fun i => s :: i.2.2.2.1 :: [(br, cel [.pointer (some ⟨b, 0, none⟩)] _)] :: [(bo, cel [.func (.func 28) #[.pointer (some ⟨b, 0, none⟩)] #[]] _)] :: F) (Φ := fun i => (rList rFl (bs.drop at_)).code = 0 → i.2.1 = ((rList rFl (bs.drop at_)).val []).length ∧ OwnSl 61 1 i.1 i.2.1 i.2.2.1 (fVs ((rList rFl (bs.drop at_)).val [])) i.2.2.2.1 ∧ i.2.2.2.2 = at_ + (rList rFl (bs.drop at_)).k) (H.pull 2 rfl) hE (rList_good rFl_g _).1.code cl101 (all_lf (H.pull 1 rfl) ho hat hl hE)))) ?_
  rintro _ w ⟨i, rfl, hi, H⟩
  obtain ⟨p2, c2, s2, hv, ho2, H⟩ : ∃ p2 c2 s2, (if (rList rFl (bs.drop at_)).code = 0 then Value.slice i.1 i.2.1 i.2.2.1 else .slice none 0 0) = .slice p2 ((rList rFl (bs.drop at_)).val []).length c2 ∧ OwnSl 61 1 p2 ((rList rFl (bs.drop at_)).val []).length c2 (fVs ((rList rFl (bs.drop at_)).val [])) s2 ∧ Hp w0 w (s2 :: [(b, cel [.slice p bs.length c, .int .i64 (at_ + (rList rFl (bs.drop at_)).k : Nat)] T)] :: s :: F) := by
    have H1 := (((H.pull 3 rfl).drop).pull 3 rfl).drop
    by_cases h0 : (rList rFl (bs.drop at_)).code = 0
    · obtain ⟨h1, h2, h3⟩ := hi h0
      rw [if_pos h0, h3] at H1
      rw [if_pos h0, ← h1]
      exact ⟨_, _, _, rfl, h2, H1.pull 2 rfl⟩
    · obtain ⟨e, he, _⟩ := (rList_good rFl_g _).1.of_err h0
      rw [if_neg h0] at H1
      rw [if_neg h0, he]
      exact ⟨none, 0, [], rfl, OwnSl.nil, ((H1.pull 2 rfl).drop).nil⟩
  rw [hv]
  refine JL.go trivial (RX.extract rfl rfl) ?_
  refine JL.go trivial (RX.extract (v := errV E (rList rFl (bs.drop at_)).code) rfl rfl) ?_
  refine JL.go trivial (RX.assignv (v := Value.slice _ _ _) rfl) ?_
  refine JL.go trivial (RX.assignv (v := errV E (rList rFl (bs.drop at_)).code) rfl) ?_
  refine JL.nil ?_
  refine J.ret2 (v := Value.slice _ _ _) Tryd.func84 rfl rfl rfl ?_
  exact ⟨_, rfl, p2, c2, s2, rfl, ho2, H⟩
theorem rFloats_c {w0 w : World} {F : List Seg} {b T c at_ : Nat} {p : Option Addr} {s : Seg} {bs : List UInt8} {E : Nat → Value} (H : Hp w0 w ([(b, cel [.slice p bs.length c, .int .i64 (at_ : Nat)] T)] :: s :: F)) (ho : OwnSl 5 1 p bs.length c (bv bs) s) (hat : at_ ≤ bs.length) (hl : bs.length ≤ 1099511627776) (hE : Er F E) : Ret Tryd.prog 36 [.pointer (some ⟨b, 0, none⟩)] w fun v w' => ∃ p2 c2 s2, v = .tuple #[.slice p2 ((rList rFl (bs.drop at_)).val []).length c2, errV E (rList rFl (bs.drop at_)).code] ∧ OwnSl 61 1 p2 ((rList rFl (bs.drop at_)).val []).length c2 (fVs ((rList rFl (bs.drop at_)).val [])) s2 ∧ Hp w0 w' (s2 :: [(b, cel [.slice p bs.length c, .int .i64 (at_ + (rList rFl (bs.drop at_)).k : Nat)] T)] :: s :: F) := by
  refine Calls.of_J (n := 10) Tryd.func36 rfl rfl rfl ?_
  refine J.seq ?_
  refine J.region ?_
  refine JL.go trivial (RX.assign) ?_
  refine JL.go trivial (RX.assign) ?_
  refine JL.nil ?_
  refine J.seq ?_
  refine J.region ?_
  refine JL.go trivial (RX.movev (v := Value.pointer _) rfl) ?_
  refine JL.go trivial (RX.movev (v := Value.pointer _) rfl) ?_
  refine JL.go trivial (RX.makeFunc rfl rfl) ?_
  refine JL.does trivial (EX.call rfl cl84 rfl ((rall_lf H ho hat hl hE))) ?_
  rintro _ w ⟨p2, c2, s2, rfl, ho2, H⟩
  refine JL.go trivial (RX.extract rfl rfl) ?_
  refine JL.go trivial (RX.extract (v := errV E (rList rFl (bs.drop at_)).code) rfl rfl) ?_
  refine JL.go trivial (RX.assignv (v := Value.slice _ _ _) rfl) ?_
  refine JL.go trivial (RX.assignv (v := errV E (rList rFl (bs.drop at_)).code) rfl) ?_
  refine JL.nil ?_
  refine J.ret2 (v := Value.slice _ _ _) Tryd.func36 rfl rfl rfl ?_
  exact ⟨_, rfl, p2, c2, s2, rfl, ho2, H⟩
end Go.Proofs.YtippfdnjhcpekaaDoor
