/- PackOneForm. -/
import Derived.Test.YtippfdnjhcpekaaDoorLy
import Derived.Test.YtippfdnjhcpekaaDoorPb
namespace Go.Proofs.YtippfdnjhcpekaaDoor
open Go Go.Eng
set_option maxRecDepth 100000
set_option linter.unusedVariables false
set_option linter.unusedSimpArgs false

theorem one_form {α : Type} {r : Rs α} {d : α} {f : α → List UInt8} {l : List UInt8} (hg : r.Good l.length) (hb : ∀ a k, r = .ok a k → f a = l.take k) :
    r.code ≤ 19 ∧ (¬ r.code = 0 → r.k = 0) ∧ r.k ≤ l.length ∧ (r.code = 0 → f (r.val d) = l.take r.k) := by
  cases hr : r with
  | ok a k =>
    subst hr
    exact ⟨Nat.zero_le _, fun h => absurd rfl h, hg, fun _ => hb a k rfl⟩
  | err e =>
    subst hr
    refine ⟨hg.2, fun _ => rfl, Nat.zero_le _, fun h => ?_⟩
    have h1 : e = 0 := h
    have h2 : 1 ≤ e := hg.1
    omega
theorem rU_okv (l : List UInt8) : u64ok ((rU l).val 0) := by
  have hg := rU_good l
  cases hr : rU l with
  | ok x k => exact (hg.2.1 x k hr).1
  | err e => exact Nat.zero_le _
theorem rI_okv (l : List UInt8) : -9223372036854775808 ≤ (rI l).val 0 ∧ (rI l).val 0 ≤ 9223372036854775807 := by
  have h := rU_okv l
  unfold rI
  cases hr : rU l with
  | ok x k => rw [hr] at h; exact unzig_in h
  | err e => exact ⟨(by decide : (-9223372036854775808 : Int) ≤ 0), (by decide : (0 : Int) ≤ 9223372036854775807)⟩
theorem rNa_okv (l : List UInt8) : u32ok ((rNa l).val (0, 0)).1 ∧ u32ok ((rNa l).val (0, 0)).2 := by
  cases hr : rNa l with
  | err e => exact ⟨Nat.zero_le _, Nat.zero_le _⟩
  | ok q k =>
    obtain ⟨_, _, ⟨k1, h1⟩, ⟨k2, h2⟩⟩ := (pair2_good rF32_g l).2 q k hr
    exact ⟨((rF32_good l).2 _ _ h1).2.2.2.2, ((rF32_good _).2 _ _ h2).2.2.2.2⟩
theorem rTx_okv (l : List UInt8) : ((rTx 1073741824 l).val []).length ≤ 1073741824 := by
  cases hr : rTx 1073741824 l with
  | err e => exact Nat.zero_le _
  | ok q k => have := ((rTx_good 1073741824 l).2 q k hr).1; simp only [Rs.val_ok]; omega
def iVs (l : List Int) : List Value := l.map fun z => .int .i64 z
set_option maxHeartbeats 1600000 in
theorem PackOneForm_b {w0 w : World} {F : List Seg} {E : Nat → Value} (H : Hp w0 w F) (hE : Er F E) {bs : List UInt8} {bp : Option Addr} {bc : Nat} (hbs : SlAt F bp (bv bs)) (hbl : bs.length ≤ 1048576) (hbc : bs.length ≤ bc) (hsp : ∀ a, bp = some a → a.spot = none ∨ bc = 0) {ks : List Int} {kp : Option Addr} {kc : Nat} (hks : SlAt F kp (iVs ks)) (hkn : ks.length ≤ 9223372036854775807) : Ret Tryd.prog 6 [.slice bp bs.length bc, .slice kp ks.length kc] w fun v w' => v = .bool true ∧ Hp w0 w' F := by
  refine Calls.of_J (n := 184) Tryd.func6 rfl rfl rfl ?_
  refine J.seq ?_
  refine J.region ?_
  refine JL.go trivial (RX.assign) ?_
  refine JL.nil ?_
  refine J.seq ?_
  refine J.seq ?_
  refine J.region ?_
  refine JL.does trivial (EX.call rfl cl8 rfl ((lives_b H hE))) ?_
  rintro _ w ⟨rfl, H⟩
  refine JL.go trivial (RX.not rfl) ?_
  refine JL.nil ?_
  refine J.cond_f rfl rfl ?_
  refine J.skip ?_
  refine J.seq ?_
  refine J.region ?_
  refine JL.does trivial (EX.buildSlice0 H elB) ?_
  rintro _ w ⟨b0, rfl, H⟩
  refine JL.go trivial (RX.movev (v := Value.slice _ _ _) rfl) ?_
  refine JL.does trivial (EX.append (ys := bv bs) (L' := fun s' => s' :: F) H elB rfl rfl (i := 0) rfl OwnSl.empty hbs.cons (by simp [bv_len]) (bv_cell _) (by decide) (by omega) (by omega) (fun _ => rfl)) ?_
  rintro v w ⟨q0, c0, s0, hv, ho0, H⟩
  rw [Nat.zero_add] at hv ho0
  rw [List.nil_append] at ho0
  subst hv
  refine JL.does trivial (EX.call rfl cl15 rfl ((read_r H ho0.slAt (by omega)))) ?_
  rintro _ w ⟨rb, rp, rc, rs, rfl, hor, H⟩
  refine JL.go trivial (RX.assignv (v := Value.pointer _) rfl) ?_
  refine JL.nil ?_
  refine J.seq ?_
  refine J.seq ?_
  refine J.region ?_
  refine JL.go trivial (RX.movev (v := Value.pointer _) rfl) ?_
  refine JL.go trivial (RX.ptrnil_eql rfl rfl pn42) ?_
  refine JL.nil ?_
  refine J.cond_f rfl rfl ?_
  refine J.skip ?_
  refine J.seq ?_
  refine J.seq ?_
  refine J.region ?_
  refine JL.go trivial (RX.movev (v := Value.slice _ _ _) rfl) ?_
  refine JL.go trivial (RX.len_slice rfl (by rw [sl54]; rfl) rfl) ?_
  refine JL.go trivial (RX.move) ?_
  refine JL.nil ?_
  refine J.block ?_
  refine J.loop (ι := Nat × Nat) (S := fun q => [(38, .int .i64 (q.1 : Nat))]) (Φ := fun q w => q.1 ≤ ks.length ∧ q.2 ≤ bs.length ∧ Hp w0 w ([(rb, cel [.slice rp bs.length rc, .int .i64 (q.2 : Nat)] 102)] :: rs :: s0 :: F)) (μ := fun q => ks.length - q.1) (C := [(0, _), (5, _), (36, _), (37, _)]) (0, 0) ⟨rfl, rfl, rfl, rfl, trivial⟩ ⟨rfl, trivial⟩ ?_ ?_
  · exact ⟨by omega, by simp, H⟩
  clear H
  rintro ⟨i, at_⟩ ρ w ⟨hi, hat, H⟩ IH
  simp only at hi hat H
  dsimp only
  refine J.seq ?_
  refine J.region ?_
  refine JL.go trivial (RX.lt rfl rfl) ?_
  refine JL.nil ?_
  refine J.seq ?_
  refine J.cond_d rfl (fun hlt => ?_) (fun hlt => ?_)
  · skip
    obtain ⟨z, hz⟩ : ∃ z, ks[i]? = some z := ⟨_, List.getElem?_eq_getElem (by omega)⟩
    obtain ⟨pb, po, rfl, _⟩ := hks.some (by simp [iVs]; omega)
    refine J.skip ?_
    refine J.seq ?_
    refine J.block ?_
    refine J.seq ?_
    refine J.region ?_
    refine JL.go trivial (RX.indexAddr rfl rfl sl54 (by omega) (by omega) rfl) ?_
    refine JL.go trivial (RX.loadS H hks.cons.cons.cons rfl (j := i) (by omega) (v := .int .i64 z) (by simp [iVs, hz]) one3) ?_
    refine JL.go trivial (RX.assignv (v := Value.int _ _) rfl) ?_
    refine JL.nil ?_
    refine J.seq ?_
    refine J.region ?_
    refine JL.go trivial (RX.movev (v := Value.pointer _) rfl) ?_
    refine JL.does trivial (EX.call rfl cl19 rfl ((at_r (i := 0) H rfl))) ?_
    rintro _ w ⟨rfl, H⟩
    refine JL.go trivial (RX.assignv (v := Value.int _ _) rfl) ?_
    refine JL.nil ?_
    refine J.seq ?_
    refine J.region ?_
    refine JL.does trivial (EX.call rfl cl9 rfl ((new_w H))) ?_
    rintro _ w ⟨b, rfl, H⟩
    replace H := ((H.nil).pull 1 rfl)
    refine JL.go trivial (RX.assignv (v := Value.pointer _) rfl) ?_
    refine JL.nil ?_
    refine J.seq ?_
    refine J.seq ?_
    refine J.region ?_
    refine JL.go trivial (RX.movev (v := Value.pointer _) rfl) ?_
    refine JL.go trivial (RX.ptrnil_eql rfl rfl pn24) ?_
    refine JL.go trivial (RX.movev (v := Value.bool _) rfl) ?_
    refine JL.go ⟨_, rfl, rfl⟩ (RX.movev (v := Value.int _ _) rfl) ?_
    refine JL.go ⟨_, rfl, rfl⟩ (RX.lt rfl rfl) ?_
    refine JL.go trivial (RX.pick_f rfl rfl) ?_
    refine JL.go trivial (RX.movev (v := Value.bool _) rfl) ?_
    refine JL.go ⟨_, rfl, (decide_eq_false (by omega))⟩ (RX.movev (v := Value.int _ _) rfl) ?_
    refine JL.go ⟨_, rfl, (decide_eq_false (by omega))⟩ (RX.movev (v := Value.slice _ _ _) rfl) ?_
    refine JL.go ⟨_, rfl, (decide_eq_false (by omega))⟩ (RX.len_slice rfl (by rw [sl26]; rfl) rfl) ?_
    refine JL.go ⟨_, rfl, (decide_eq_false (by omega))⟩ (RX.gt rfl rfl) ?_
    refine JL.go trivial (RX.pick_f rfl (decide_eq_false (by omega))) ?_
    refine JL.nil ?_
    refine J.cond_f rfl (by first | rfl | exact decide_eq_false (by omega)) ?_
    refine J.skip ?_
    refine J.seq ?_
    refine J.region ?_
    refine JL.go trivial (RX.assign) ?_
    refine JL.nil ?_
    refine J.seq ?_
    refine J.seq ?_
    refine J.region ?_
    refine JL.go trivial (RX.movev (v := Value.int _ _) rfl) ?_
    refine JL.nil ?_
    refine J.block ?_
    refine J.seq ?_
    refine J.region ?_
    refine JL.go trivial (RX.eq rfl rfl) ?_
    refine JL.go trivial (RX.assignv (v := Value.bool _) rfl) ?_
    refine JL.nil ?_
    refine J.cond_d rfl (fun h0 => ?_) (fun h0 => ?_)
    · skip
      refine J.seq ?_
      refine J.region ?_
      refine JL.go trivial (RX.movev (v := Value.pointer _) rfl) ?_
      replace H := (H.pull 3 rfl).pull 3 rfl
      refine JL.does trivial (EX.call rfl cl24 rfl ((rUint_c H hor hat (by omega) hE.cons.cons.cons))) ?_
      rintro _ w ⟨rfl, H⟩
      obtain ⟨he, hek, hkl, hys⟩ := one_form (d := 0) (f := fun z => varint (z)) ((rU_good (bs.drop at_)).1) (fun a k h => rU_b h)
      rw [List.length_drop] at hkl
      replace hys : (rU (bs.drop at_)).code = 0 → varint ((rU (bs.drop at_)).val 0) = (bs.drop at_).take (rU (bs.drop at_)).k := hys
      generalize hee : (rU (bs.drop at_)).code = e at he hek hys ⊢
      generalize hkk : (rU (bs.drop at_)).k = k at hek hkl hys H
      clear hee hkk
      refine JL.go trivial (RX.movev (v := Value.tuple _) rfl) ?_
      refine JL.go trivial (RX.extract rfl rfl) ?_
      refine JL.go trivial (RX.extract (v := errV E e) rfl rfl) ?_
      refine JL.go trivial (RX.assignv (v := Value.int _ _) rfl) ?_
      refine JL.go trivial (RX.assignv (v := errV E e) rfl) ?_
      refine JL.nil ?_
      refine J.seq ?_
      refine J.region ?_
      refine JL.go trivial (RX.movev (v := errV E e) rfl) ?_
      refine JL.go trivial (RX.assignv (v := errV E e) rfl) ?_
      refine JL.nil ?_
      refine J.region ?_
      refine JL.go trivial (RX.movev (v := Value.pointer _) rfl) ?_
      refine JL.go trivial (RX.movev (v := Value.int _ _) rfl) ?_
      replace H := (H.pull 3 rfl).pull 3 rfl
      refine JL.does trivial (EX.call rfl cl25 rfl ((Uint_c (xs := []) ⟨none, 0, [], OwnSl.nil, H⟩ (rU_okv _) (by decide)))) ?_
      rintro _ w ⟨rfl, p, cp, s, ho, H⟩
      rw [List.nil_append] at ho H
      generalize varint ((rU (bs.drop at_)).val 0) = ys at ho H hys
      refine JL.nil ?_
      refine J.inBlock ?_
      refine J.seq ?_
      refine J.region ?_
      refine JL.go trivial (RX.movev (v := Value.pointer _) rfl) ?_
      refine JL.does trivial (EX.call rfl cl19 rfl ((at_r (i := 2) H rfl))) ?_
      rintro _ w ⟨rfl, H⟩
      refine JL.go trivial (RX.assignv (v := Value.int _ _) rfl) ?_
      refine JL.nil ?_
      refine J.seq ?_
      obtain ⟨hie, hnn⟩ := er_ie hE he
      refine J.any hmix fun w hs => ?_
      replace H := H.same hs; clear hs
      refine JA.take 0 (listed' := [true,false,false,false,false,false,false,false,false,false,false,false,false,false,false,false,false,false,false,false,false,false,false,false,false,false,false,false,false,false,false,false,false]) rfl (by kernel_rfl) (by kernel_rfl) (by kernel_rfl) rfl trivial (fun w => RX.movev (v := errV E e) rfl) ?_
      refine JA.take 1 (listed' := [true,true,false,false,false,false,false,false,false,false,false,false,false,false,false,false,false,false,false,false,false,false,false,false,false,false,false,false,false,false,false,false,false]) rfl (by kernel_rfl) (by kernel_rfl) (by kernel_rfl) rfl trivial (fun w => RX.ifnil_neq (v := errV E e) rfl rfl hie if40) ?_
      refine JA.take 2 (listed' := [true,true,true,false,false,false,false,false,false,false,false,false,false,false,false,false,false,false,false,false,false,false,false,false,false,false,false,false,false,false,false,false,false]) rfl (by kernel_rfl) (by kernel_rfl) (by kernel_rfl) rfl trivial (fun w => RX.movev (v := Value.bool _) rfl) ?_
      refine JA.splitS 152 rfl (fun hz => ?_) (fun hz => ?_)
      · skip
        first | have hzp := of_decide_eq_true hz | skip
        have hz2 : isNil (errV E e) = false := by simpa using hz
        have he0 : ¬ e = 0 := by intro h; rw [hnn, decide_eq_true h] at hz2; cases hz2
        have hk0 := hek he0
        refine JA.take 3 (listed' := [true,true,true,true,false,false,false,false,false,false,false,false,false,false,false,false,false,false,false,false,false,false,false,false,false,false,false,false,false,false,false,false,false]) rfl (by kernel_rfl) (by kernel_rfl) (by kernel_rfl) rfl ⟨_, rfl, hz⟩ (fun w => RX.movev (v := Value.int _ _) rfl) ?_
        refine JA.take 4 (listed' := [true,true,true,true,true,false,false,false,false,false,false,false,false,false,false,false,false,false,false,false,false,false,false,false,false,false,false,false,false,false,false,false,false]) rfl (by kernel_rfl) (by kernel_rfl) (by kernel_rfl) rfl ⟨_, rfl, hz⟩ (fun w => RX.movev (v := Value.int _ _) rfl) ?_
        refine JA.take 5 (listed' := [true,true,true,true,true,true,false,false,false,false,false,false,false,false,false,false,false,false,false,false,false,false,false,false,false,false,false,false,false,false,false,false,false]) rfl (by kernel_rfl) (by kernel_rfl) (by kernel_rfl) rfl ⟨_, rfl, hz⟩ (fun w => RX.ne rfl rfl) ?_
        refine JA.take 6 (listed' := [true,true,true,true,true,true,true,false,false,false,false,false,false,false,false,false,false,false,false,false,false,false,false,false,false,false,false,false,false,false,false,false,false]) rfl (by kernel_rfl) (by kernel_rfl) (by kernel_rfl) rfl trivial (fun w => RX.pick_t rfl hz) ?_
        refine JA.take 7 (listed' := [true,true,true,true,true,true,true,true,false,false,false,false,false,false,false,false,false,false,false,false,false,false,false,false,false,false,false,false,false,false,false,false,false]) rfl (by kernel_rfl) (by kernel_rfl) (by kernel_rfl) rfl trivial (fun w => RX.movev (v := Value.bool _) rfl) ?_
        refine JA.take 8 (listed' := [true,true,true,true,true,true,true,true,true,false,false,false,false,false,false,false,false,false,false,false,false,false,false,false,false,false,false,false,false,false,false,false,false]) rfl (by kernel_rfl) (by kernel_rfl) (by kernel_rfl) rfl ⟨_, rfl, (by first | rfl | exact decide_eq_false (by omega))⟩ (fun w => RX.movev (v := Value.int _ _) rfl) ?_
        refine JA.take 9 (listed' := [true,true,true,true,true,true,true,true,true,true,false,false,false,false,false,false,false,false,false,false,false,false,false,false,false,false,false,false,false,false,false,false,false]) rfl (by kernel_rfl) (by kernel_rfl) (by kernel_rfl) rfl ⟨_, rfl, (by first | rfl | exact decide_eq_false (by omega))⟩ (fun w => RX.movev (v := Value.int _ _) rfl) ?_
        refine JA.take 10 (listed' := [true,true,true,true,true,true,true,true,true,true,true,false,false,false,false,false,false,false,false,false,false,false,false,false,false,false,false,false,false,false,false,false,false]) rfl (by kernel_rfl) (by kernel_rfl) (by kernel_rfl) rfl ⟨_, rfl, (by first | rfl | exact decide_eq_false (by omega))⟩ (fun w => RX.lt rfl rfl) ?_
        refine JA.take 11 (listed' := [true,true,true,true,true,true,true,true,true,true,true,true,false,false,false,false,false,false,false,false,false,false,false,false,false,false,false,false,false,false,false,false,false]) rfl (by kernel_rfl) (by kernel_rfl) (by kernel_rfl) rfl trivial (fun w => RX.pick_f rfl (by first | rfl | exact decide_eq_false (by omega))) ?_
        refine JA.take 12 (listed' := [true,true,true,true,true,true,true,true,true,true,true,true,true,false,false,false,false,false,false,false,false,false,false,false,false,false,false,false,false,false,false,false,false]) rfl (by kernel_rfl) (by kernel_rfl) (by kernel_rfl) rfl trivial (fun w => RX.movev (v := Value.bool _) rfl) ?_
        refine JA.take 13 (listed' := [true,true,true,true,true,true,true,true,true,true,true,true,true,true,false,false,false,false,false,false,false,false,false,false,false,false,false,false,false,false,false,false,false]) rfl (by kernel_rfl) (by kernel_rfl) (by kernel_rfl) rfl ⟨_, rfl, (decide_eq_false (by omega))⟩ (fun w => RX.movev (v := Value.int _ _) rfl) ?_
        refine JA.take 14 (listed' := [true,true,true,true,true,true,true,true,true,true,true,true,true,true,true,false,false,false,false,false,false,false,false,false,false,false,false,false,false,false,false,false,false]) rfl (by kernel_rfl) (by kernel_rfl) (by kernel_rfl) rfl ⟨_, rfl, (decide_eq_false (by omega))⟩ (fun w => RX.movev (v := Value.slice _ _ _) rfl) ?_
        refine JA.take 15 (listed' := [true,true,true,true,true,true,true,true,true,true,true,true,true,true,true,true,false,false,false,false,false,false,false,false,false,false,false,false,false,false,false,false,false]) rfl (by kernel_rfl) (by kernel_rfl) (by kernel_rfl) rfl ⟨_, rfl, (decide_eq_false (by omega))⟩ (fun w => RX.len_slice rfl (by rw [sl26]; rfl) rfl) ?_
        refine JA.take 16 (listed' := [true,true,true,true,true,true,true,true,true,true,true,true,true,true,true,true,true,false,false,false,false,false,false,false,false,false,false,false,false,false,false,false,false]) rfl (by kernel_rfl) (by kernel_rfl) (by kernel_rfl) rfl ⟨_, rfl, (decide_eq_false (by omega))⟩ (fun w => RX.gt rfl rfl) ?_
        refine JA.take 17 (listed' := [true,true,true,true,true,true,true,true,true,true,true,true,true,true,true,true,true,true,false,false,false,false,false,false,false,false,false,false,false,false,false,false,false]) rfl (by kernel_rfl) (by kernel_rfl) (by kernel_rfl) rfl trivial (fun w => RX.pick_f rfl (decide_eq_false (by omega))) ?_
        refine JA.take 18 (listed' := [true,true,true,true,true,true,true,true,true,true,true,true,true,true,true,true,true,true,true,false,false,false,false,false,false,false,false,false,false,false,false,false,false]) rfl (by kernel_rfl) (by kernel_rfl) (by kernel_rfl) rfl trivial (fun w => RX.movev (v := Value.bool _) rfl) ?_
        refine JA.take 19 (listed' := [true,true,true,true,true,true,true,true,true,true,true,true,true,true,true,true,true,true,true,true,false,false,false,false,false,false,false,false,false,false,false,false,false]) rfl (by kernel_rfl) (by kernel_rfl) (by kernel_rfl) rfl ⟨_, rfl, (decide_eq_false (by omega))⟩ (fun w => RX.movev (v := errV E e) rfl) ?_
        refine JA.take 20 (listed' := [true,true,true,true,true,true,true,true,true,true,true,true,true,true,true,true,true,true,true,true,true,false,false,false,false,false,false,false,false,false,false,false,false]) rfl (by kernel_rfl) (by kernel_rfl) (by kernel_rfl) rfl ⟨_, rfl, (decide_eq_false (by omega))⟩ (fun w => RX.ifnil_eql (v := errV E e) rfl rfl hie if40) ?_
        refine JA.take 21 (listed' := [true,true,true,true,true,true,true,true,true,true,true,true,true,true,true,true,true,true,true,true,true,true,false,false,false,false,false,false,false,false,false,false,false]) rfl (by kernel_rfl) (by kernel_rfl) (by kernel_rfl) rfl ⟨_, rfl, (decide_eq_false (by omega))⟩ (fun w => RX.movev (v := Value.bool _) rfl) ?_
        refine JA.takeno 22 (listed' := [true,true,true,true,true,true,true,true,true,true,true,true,true,true,true,true,true,true,true,true,true,true,true,false,false,false,false,false,false,false,false,false,false]) rfl (by kernel_rfl) (by kernel_rfl) (by kernel_rfl) rfl ⟨_, rfl, gno hz2⟩ ?_
        refine JA.takeno 23 (listed' := [true,true,true,true,true,true,true,true,true,true,true,true,true,true,true,true,true,true,true,true,true,true,true,true,false,false,false,false,false,false,false,false,false]) rfl (by kernel_rfl) (by kernel_rfl) (by kernel_rfl) rfl ⟨_, rfl, gno hz2⟩ ?_
        refine JA.takeno 24 (listed' := [true,true,true,true,true,true,true,true,true,true,true,true,true,true,true,true,true,true,true,true,true,true,true,true,true,false,false,false,false,false,false,false,false]) rfl (by kernel_rfl) (by kernel_rfl) (by kernel_rfl) rfl ⟨_, rfl, gno hz2⟩ ?_
        refine JA.takeno 25 (listed' := [true,true,true,true,true,true,true,true,true,true,true,true,true,true,true,true,true,true,true,true,true,true,true,true,true,true,false,false,false,false,false,false,false]) rfl (by kernel_rfl) (by kernel_rfl) (by kernel_rfl) rfl ⟨_, rfl, gno hz2⟩ ?_
        refine JA.takeno 26 (listed' := [true,true,true,true,true,true,true,true,true,true,true,true,true,true,true,true,true,true,true,true,true,true,true,true,true,true,true,false,false,false,false,false,false]) rfl (by kernel_rfl) (by kernel_rfl) (by kernel_rfl) rfl ⟨_, rfl, gno hz2⟩ ?_
        refine JA.takeno 27 (listed' := [true,true,true,true,true,true,true,true,true,true,true,true,true,true,true,true,true,true,true,true,true,true,true,true,true,true,true,true,false,false,false,false,false]) rfl (by kernel_rfl) (by kernel_rfl) (by kernel_rfl) rfl ⟨_, rfl, gno hz2⟩ ?_
        refine JA.takeno 28 (listed' := [true,true,true,true,true,true,true,true,true,true,true,true,true,true,true,true,true,true,true,true,true,true,true,true,true,true,true,true,true,false,false,false,false]) rfl (by kernel_rfl) (by kernel_rfl) (by kernel_rfl) rfl ⟨_, rfl, gno hz2⟩ ?_
        refine JA.takeno 29 (listed' := [true,true,true,true,true,true,true,true,true,true,true,true,true,true,true,true,true,true,true,true,true,true,true,true,true,true,true,true,true,true,false,false,false]) rfl (by kernel_rfl) (by kernel_rfl) (by kernel_rfl) rfl ⟨_, rfl, gno hz2⟩ ?_
        refine JA.takeno 30 (listed' := [true,true,true,true,true,true,true,true,true,true,true,true,true,true,true,true,true,true,true,true,true,true,true,true,true,true,true,true,true,true,true,false,false]) rfl (by kernel_rfl) (by kernel_rfl) (by kernel_rfl) rfl ⟨_, rfl, gno hz2⟩ ?_
        refine JA.take 31 (listed' := [true,true,true,true,true,true,true,true,true,true,true,true,true,true,true,true,true,true,true,true,true,true,true,true,true,true,true,true,true,true,true,true,false]) rfl (by kernel_rfl) (by kernel_rfl) (by kernel_rfl) rfl ⟨_, rfl, (decide_eq_false (by omega))⟩ (fun w => RX.pick_f rfl hz2) ?_
        refine JA.take 32 (listed' := [true,true,true,true,true,true,true,true,true,true,true,true,true,true,true,true,true,true,true,true,true,true,true,true,true,true,true,true,true,true,true,true,true]) rfl (by kernel_rfl) (by kernel_rfl) (by kernel_rfl) rfl trivial (fun w => RX.pick_f rfl (decide_eq_false (by omega))) ?_
        refine JA.done (by kernel_rfl) ?_
        refine J.cond_f rfl (by first | rfl | exact hz2 | (subst hyk; exact decide_eq_false (fun h => h rfl))) ?_
        refine J.skip ?_
        refine J.inBlock ?_
        refine J.region ?_
        refine JL.go trivial (RX.add rfl rfl (w_i64 rfl (by omega) (by omega))) ?_
        refine JL.go trivial (RX.movev (v := Value.int _ _) rfl) ?_
        refine JL.nil ?_
        first
        | exact IH (i + 1, at_ + k) _ _ (by simp only; omega) ⟨rfl, rfl, rfl, rfl, trivial⟩ ⟨rfl, trivial⟩ ⟨by simp only; omega, by simp only; omega, H.drop.drop.drop⟩
        | exact IH (i + 1, at_ + k) _ _ (by simp only; omega) ⟨rfl, rfl, rfl, rfl, trivial⟩ ⟨rfl, trivial⟩ ⟨by simp only; omega, by simp only; omega, H.drop.drop⟩
        | exact IH (i + 1, at_) _ _ (by simp only; omega) ⟨rfl, rfl, rfl, rfl, trivial⟩ ⟨rfl, trivial⟩ ⟨by simp only; omega, hat, H.drop.drop⟩
      · skip
        first | have hzp := of_decide_eq_false hz | skip
        have hz2 : isNil (errV E e) = true := by simpa using hz
        have he0 : e = 0 := of_decide_eq_true (hnn.symm.trans hz2)
        have hyk := hys he0
        have hyl : ys.length = k := by rw [hyk, List.length_take, List.length_drop]; omega
        have hslice : SlAt F (behind bp bc at_ 1) (bv ((bs.drop at_).take k)) := by
          have h := (SlAt.behind (cap := bc) (r := at_) (sz := 1) hbs (by rw [bv_len]; omega)).take (n := k)
          rw [bv_part] at h
          exact h
        refine JA.takeno 3 (listed' := [true,true,true,true,false,false,false,false,false,false,false,false,false,false,false,false,false,false,false,false,false,false,false,false,false,false,false,false,false,false,false,false,false]) rfl (by kernel_rfl) (by kernel_rfl) (by kernel_rfl) rfl ⟨_, rfl, gno hz⟩ ?_
        refine JA.takeno 4 (listed' := [true,true,true,true,true,false,false,false,false,false,false,false,false,false,false,false,false,false,false,false,false,false,false,false,false,false,false,false,false,false,false,false,false]) rfl (by kernel_rfl) (by kernel_rfl) (by kernel_rfl) rfl ⟨_, rfl, gno hz⟩ ?_
        refine JA.takeno 5 (listed' := [true,true,true,true,true,true,false,false,false,false,false,false,false,false,false,false,false,false,false,false,false,false,false,false,false,false,false,false,false,false,false,false,false]) rfl (by kernel_rfl) (by kernel_rfl) (by kernel_rfl) rfl ⟨_, rfl, gno hz⟩ ?_
        refine JA.take 6 (listed' := [true,true,true,true,true,true,true,false,false,false,false,false,false,false,false,false,false,false,false,false,false,false,false,false,false,false,false,false,false,false,false,false,false]) rfl (by kernel_rfl) (by kernel_rfl) (by kernel_rfl) rfl trivial (fun w => RX.pick_f rfl hz) ?_
        refine JA.take 7 (listed' := [true,true,true,true,true,true,true,true,false,false,false,false,false,false,false,false,false,false,false,false,false,false,false,false,false,false,false,false,false,false,false,false,false]) rfl (by kernel_rfl) (by kernel_rfl) (by kernel_rfl) rfl trivial (fun w => RX.movev (v := Value.bool _) rfl) ?_
        refine JA.take 8 (listed' := [true,true,true,true,true,true,true,true,true,false,false,false,false,false,false,false,false,false,false,false,false,false,false,false,false,false,false,false,false,false,false,false,false]) rfl (by kernel_rfl) (by kernel_rfl) (by kernel_rfl) rfl ⟨_, rfl, rfl⟩ (fun w => RX.movev (v := Value.int _ _) rfl) ?_
        refine JA.take 9 (listed' := [true,true,true,true,true,true,true,true,true,true,false,false,false,false,false,false,false,false,false,false,false,false,false,false,false,false,false,false,false,false,false,false,false]) rfl (by kernel_rfl) (by kernel_rfl) (by kernel_rfl) rfl ⟨_, rfl, rfl⟩ (fun w => RX.movev (v := Value.int _ _) rfl) ?_
        refine JA.take 10 (listed' := [true,true,true,true,true,true,true,true,true,true,true,false,false,false,false,false,false,false,false,false,false,false,false,false,false,false,false,false,false,false,false,false,false]) rfl (by kernel_rfl) (by kernel_rfl) (by kernel_rfl) rfl ⟨_, rfl, rfl⟩ (fun w => RX.lt rfl rfl) ?_
        refine JA.take 11 (listed' := [true,true,true,true,true,true,true,true,true,true,true,true,false,false,false,false,false,false,false,false,false,false,false,false,false,false,false,false,false,false,false,false,false]) rfl (by kernel_rfl) (by kernel_rfl) (by kernel_rfl) rfl trivial (fun w => RX.pick_f rfl rfl) ?_
        refine JA.take 12 (listed' := [true,true,true,true,true,true,true,true,true,true,true,true,true,false,false,false,false,false,false,false,false,false,false,false,false,false,false,false,false,false,false,false,false]) rfl (by kernel_rfl) (by kernel_rfl) (by kernel_rfl) rfl trivial (fun w => RX.movev (v := Value.bool _) rfl) ?_
        refine JA.take 13 (listed' := [true,true,true,true,true,true,true,true,true,true,true,true,true,true,false,false,false,false,false,false,false,false,false,false,false,false,false,false,false,false,false,false,false]) rfl (by kernel_rfl) (by kernel_rfl) (by kernel_rfl) rfl ⟨_, rfl, (decide_eq_false (by omega))⟩ (fun w => RX.movev (v := Value.int _ _) rfl) ?_
        refine JA.take 14 (listed' := [true,true,true,true,true,true,true,true,true,true,true,true,true,true,true,false,false,false,false,false,false,false,false,false,false,false,false,false,false,false,false,false,false]) rfl (by kernel_rfl) (by kernel_rfl) (by kernel_rfl) rfl ⟨_, rfl, (decide_eq_false (by omega))⟩ (fun w => RX.movev (v := Value.slice _ _ _) rfl) ?_
        refine JA.take 15 (listed' := [true,true,true,true,true,true,true,true,true,true,true,true,true,true,true,true,false,false,false,false,false,false,false,false,false,false,false,false,false,false,false,false,false]) rfl (by kernel_rfl) (by kernel_rfl) (by kernel_rfl) rfl ⟨_, rfl, (decide_eq_false (by omega))⟩ (fun w => RX.len_slice rfl (by rw [sl26]; rfl) rfl) ?_
        refine JA.take 16 (listed' := [true,true,true,true,true,true,true,true,true,true,true,true,true,true,true,true,true,false,false,false,false,false,false,false,false,false,false,false,false,false,false,false,false]) rfl (by kernel_rfl) (by kernel_rfl) (by kernel_rfl) rfl ⟨_, rfl, (decide_eq_false (by omega))⟩ (fun w => RX.gt rfl rfl) ?_
        refine JA.take 17 (listed' := [true,true,true,true,true,true,true,true,true,true,true,true,true,true,true,true,true,true,false,false,false,false,false,false,false,false,false,false,false,false,false,false,false]) rfl (by kernel_rfl) (by kernel_rfl) (by kernel_rfl) rfl trivial (fun w => RX.pick_f rfl (decide_eq_false (by omega))) ?_
        refine JA.take 18 (listed' := [true,true,true,true,true,true,true,true,true,true,true,true,true,true,true,true,true,true,true,false,false,false,false,false,false,false,false,false,false,false,false,false,false]) rfl (by kernel_rfl) (by kernel_rfl) (by kernel_rfl) rfl trivial (fun w => RX.movev (v := Value.bool _) rfl) ?_
        refine JA.take 19 (listed' := [true,true,true,true,true,true,true,true,true,true,true,true,true,true,true,true,true,true,true,true,false,false,false,false,false,false,false,false,false,false,false,false,false]) rfl (by kernel_rfl) (by kernel_rfl) (by kernel_rfl) rfl ⟨_, rfl, (decide_eq_false (by omega))⟩ (fun w => RX.movev (v := errV E e) rfl) ?_
        refine JA.take 20 (listed' := [true,true,true,true,true,true,true,true,true,true,true,true,true,true,true,true,true,true,true,true,true,false,false,false,false,false,false,false,false,false,false,false,false]) rfl (by kernel_rfl) (by kernel_rfl) (by kernel_rfl) rfl ⟨_, rfl, (decide_eq_false (by omega))⟩ (fun w => RX.ifnil_eql (v := errV E e) rfl rfl hie if40) ?_
        refine JA.take 21 (listed' := [true,true,true,true,true,true,true,true,true,true,true,true,true,true,true,true,true,true,true,true,true,true,false,false,false,false,false,false,false,false,false,false,false]) rfl (by kernel_rfl) (by kernel_rfl) (by kernel_rfl) rfl ⟨_, rfl, (decide_eq_false (by omega))⟩ (fun w => RX.movev (v := Value.bool _) rfl) ?_
        refine JA.take 22 (listed' := [true,true,true,true,true,true,true,true,true,true,true,true,true,true,true,true,true,true,true,true,true,true,true,false,false,false,false,false,false,false,false,false,false]) rfl (by kernel_rfl) (by kernel_rfl) (by kernel_rfl) rfl ⟨_, rfl, hz2⟩ (fun w => RX.movev (v := Value.pointer _) rfl) ?_
        refine JA.take 25 (listed' := [true,true,true,true,true,true,true,true,true,true,true,true,true,true,true,true,true,true,true,true,true,true,true,false,false,true,false,false,false,false,false,false,false]) rfl (by kernel_rfl) (by kernel_rfl) (by kernel_rfl) rfl ⟨_, rfl, hz2⟩ (fun w => RX.movev (v := Value.slice _ _ _) rfl) ?_
        refine JA.take 26 (listed' := [true,true,true,true,true,true,true,true,true,true,true,true,true,true,true,true,true,true,true,true,true,true,true,false,false,true,true,false,false,false,false,false,false]) rfl (by kernel_rfl) (by kernel_rfl) (by kernel_rfl) rfl ⟨_, rfl, hz2⟩ (fun w => RX.movev (v := Value.int _ _) rfl) ?_
        refine JA.take 27 (listed' := [true,true,true,true,true,true,true,true,true,true,true,true,true,true,true,true,true,true,true,true,true,true,true,false,false,true,true,true,false,false,false,false,false]) rfl (by kernel_rfl) (by kernel_rfl) (by kernel_rfl) rfl ⟨_, rfl, hz2⟩ (fun w => RX.movev (v := Value.int _ _) rfl) ?_
        refine JA.take 28 (listed' := [true,true,true,true,true,true,true,true,true,true,true,true,true,true,true,true,true,true,true,true,true,true,true,false,false,true,true,true,true,false,false,false,false]) rfl (by kernel_rfl) (by kernel_rfl) (by kernel_rfl) rfl ⟨_, rfl, hz2⟩ (fun w => RX.slice_lh2 rfl rfl rfl sl26 (fun a ha => (hsp a ha).imp id (fun h => by omega)) (by omega) (by omega) (by omega) (r := at_) (s := at_ + k) rfl rfl) ?_
        refine JA.all [23, 29] (by kernel_rfl) (by decide) ?_
        refine ⟨?_, ?_⟩
        · skip
          refine JO.does (listed' := [true,true,true,true,true,true,true,true,true,true,true,true,true,true,true,true,true,true,true,true,true,true,true,true,false,true,true,true,true,false,false,false,false]) rfl rfl ⟨_, rfl, hz2⟩ (EX.call rfl cl12 rfl ((out_w H ho (by omega)))) ?_
          rintro _ w ⟨q, qc, qs, rfl, hoq, H⟩
          refine JA.all [24, 29] (by kernel_rfl) (by decide) ?_
          refine ⟨?_, ?_⟩
          · skip
            refine JO.go (listed' := [true,true,true,true,true,true,true,true,true,true,true,true,true,true,true,true,true,true,true,true,true,true,true,true,true,true,true,true,true,false,false,false,false]) rfl rfl ⟨_, rfl, hz2⟩ (RX.b2s (l := ys) H rfl hoq.slAt sl26 ud5 ud9) ?_
            refine JA.all [29] (by kernel_rfl) (by decide) ?_
            rw [show at_ + k - at_ = ((bs.drop at_).take k).length by rw [List.length_take, List.length_drop]; omega]
            refine JO.go (listed' := [true,true,true,true,true,true,true,true,true,true,true,true,true,true,true,true,true,true,true,true,true,true,true,true,true,true,true,true,true,true,false,false,false]) rfl rfl ⟨_, rfl, hz2⟩ (RX.b2s (l := (bs.drop at_).take k) H rfl (by first | exact hslice.cons.cons.cons.cons.cons.cons | exact hslice.cons.cons.cons.cons.cons) sl26 ud5 ud9) ?_
            refine JA.take 30 (listed' := [true,true,true,true,true,true,true,true,true,true,true,true,true,true,true,true,true,true,true,true,true,true,true,true,true,true,true,true,true,true,true,false,false]) rfl (by kernel_rfl) (by kernel_rfl) (by kernel_rfl) rfl ⟨_, rfl, hz2⟩ (fun w => RX.str_neq rfl rfl) ?_
            refine JA.take 31 (listed' := [true,true,true,true,true,true,true,true,true,true,true,true,true,true,true,true,true,true,true,true,true,true,true,true,true,true,true,true,true,true,true,true,false]) rfl (by kernel_rfl) (by kernel_rfl) (by kernel_rfl) rfl ⟨_, rfl, (decide_eq_false (by omega))⟩ (fun w => RX.pick_t rfl hz2) ?_
            refine JA.take 32 (listed' := [true,true,true,true,true,true,true,true,true,true,true,true,true,true,true,true,true,true,true,true,true,true,true,true,true,true,true,true,true,true,true,true,true]) rfl (by kernel_rfl) (by kernel_rfl) (by kernel_rfl) rfl trivial (fun w => RX.pick_f rfl (decide_eq_false (by omega))) ?_
            refine JA.done (by kernel_rfl) ?_
            refine J.cond_f rfl (by first | rfl | exact hz2 | (subst hyk; exact decide_eq_false (fun h => h rfl))) ?_
            refine J.skip ?_
            refine J.inBlock ?_
            refine J.region ?_
            refine JL.go trivial (RX.add rfl rfl (w_i64 rfl (by omega) (by omega))) ?_
            refine JL.go trivial (RX.movev (v := Value.int _ _) rfl) ?_
            refine JL.nil ?_
            first
            | exact IH (i + 1, at_ + k) _ _ (by simp only; omega) ⟨rfl, rfl, rfl, rfl, trivial⟩ ⟨rfl, trivial⟩ ⟨by simp only; omega, by simp only; omega, H.drop.drop.drop⟩
            | exact IH (i + 1, at_ + k) _ _ (by simp only; omega) ⟨rfl, rfl, rfl, rfl, trivial⟩ ⟨rfl, trivial⟩ ⟨by simp only; omega, by simp only; omega, H.drop.drop⟩
            | exact IH (i + 1, at_) _ _ (by simp only; omega) ⟨rfl, rfl, rfl, rfl, trivial⟩ ⟨rfl, trivial⟩ ⟨by simp only; omega, hat, H.drop.drop⟩
          · skip
            rw [show at_ + k - at_ = ((bs.drop at_).take k).length by rw [List.length_take, List.length_drop]; omega]
            refine JO.go (listed' := [true,true,true,true,true,true,true,true,true,true,true,true,true,true,true,true,true,true,true,true,true,true,true,true,false,true,true,true,true,true,false,false,false]) rfl rfl ⟨_, rfl, hz2⟩ (RX.b2s (l := (bs.drop at_).take k) H rfl (by first | exact hslice.cons.cons.cons.cons.cons.cons | exact hslice.cons.cons.cons.cons.cons) sl26 ud5 ud9) ?_
            refine JA.all [24] (by kernel_rfl) (by decide) ?_
            refine JO.go (listed' := [true,true,true,true,true,true,true,true,true,true,true,true,true,true,true,true,true,true,true,true,true,true,true,true,true,true,true,true,true,true,false,false,false]) rfl rfl ⟨_, rfl, hz2⟩ (RX.b2s (l := ys) H rfl hoq.slAt sl26 ud5 ud9) ?_
            refine JA.take 30 (listed' := [true,true,true,true,true,true,true,true,true,true,true,true,true,true,true,true,true,true,true,true,true,true,true,true,true,true,true,true,true,true,true,false,false]) rfl (by kernel_rfl) (by kernel_rfl) (by kernel_rfl) rfl ⟨_, rfl, hz2⟩ (fun w => RX.str_neq rfl rfl) ?_
            refine JA.take 31 (listed' := [true,true,true,true,true,true,true,true,true,true,true,true,true,true,true,true,true,true,true,true,true,true,true,true,true,true,true,true,true,true,true,true,false]) rfl (by kernel_rfl) (by kernel_rfl) (by kernel_rfl) rfl ⟨_, rfl, (decide_eq_false (by omega))⟩ (fun w => RX.pick_t rfl hz2) ?_
            refine JA.take 32 (listed' := [true,true,true,true,true,true,true,true,true,true,true,true,true,true,true,true,true,true,true,true,true,true,true,true,true,true,true,true,true,true,true,true,true]) rfl (by kernel_rfl) (by kernel_rfl) (by kernel_rfl) rfl trivial (fun w => RX.pick_f rfl (decide_eq_false (by omega))) ?_
            refine JA.done (by kernel_rfl) ?_
            refine J.cond_f rfl (by first | rfl | exact hz2 | (subst hyk; exact decide_eq_false (fun h => h rfl))) ?_
            refine J.skip ?_
            refine J.inBlock ?_
            refine J.region ?_
            refine JL.go trivial (RX.add rfl rfl (w_i64 rfl (by omega) (by omega))) ?_
            refine JL.go trivial (RX.movev (v := Value.int _ _) rfl) ?_
            refine JL.nil ?_
            first
            | exact IH (i + 1, at_ + k) _ _ (by simp only; omega) ⟨rfl, rfl, rfl, rfl, trivial⟩ ⟨rfl, trivial⟩ ⟨by simp only; omega, by simp only; omega, H.drop.drop.drop⟩
            | exact IH (i + 1, at_ + k) _ _ (by simp only; omega) ⟨rfl, rfl, rfl, rfl, trivial⟩ ⟨rfl, trivial⟩ ⟨by simp only; omega, by simp only; omega, H.drop.drop⟩
            | exact IH (i + 1, at_) _ _ (by simp only; omega) ⟨rfl, rfl, rfl, rfl, trivial⟩ ⟨rfl, trivial⟩ ⟨by simp only; omega, hat, H.drop.drop⟩
        · skip
          rw [show at_ + k - at_ = ((bs.drop at_).take k).length by rw [List.length_take, List.length_drop]; omega]
          refine JO.go (listed' := [true,true,true,true,true,true,true,true,true,true,true,true,true,true,true,true,true,true,true,true,true,true,true,false,false,true,true,true,true,true,false,false,false]) rfl rfl ⟨_, rfl, hz2⟩ (RX.b2s (l := (bs.drop at_).take k) H rfl (by first | exact hslice.cons.cons.cons.cons.cons.cons | exact hslice.cons.cons.cons.cons.cons) sl26 ud5 ud9) ?_
          refine JA.all [23] (by kernel_rfl) (by decide) ?_
          refine JO.does (listed' := [true,true,true,true,true,true,true,true,true,true,true,true,true,true,true,true,true,true,true,true,true,true,true,true,false,true,true,true,true,true,false,false,false]) rfl rfl ⟨_, rfl, hz2⟩ (EX.call rfl cl12 rfl ((out_w H ho (by omega)))) ?_
          rintro _ w ⟨q, qc, qs, rfl, hoq, H⟩
          refine JA.all [24] (by kernel_rfl) (by decide) ?_
          refine JO.go (listed' := [true,true,true,true,true,true,true,true,true,true,true,true,true,true,true,true,true,true,true,true,true,true,true,true,true,true,true,true,true,true,false,false,false]) rfl rfl ⟨_, rfl, hz2⟩ (RX.b2s (l := ys) H rfl hoq.slAt sl26 ud5 ud9) ?_
          refine JA.take 30 (listed' := [true,true,true,true,true,true,true,true,true,true,true,true,true,true,true,true,true,true,true,true,true,true,true,true,true,true,true,true,true,true,true,false,false]) rfl (by kernel_rfl) (by kernel_rfl) (by kernel_rfl) rfl ⟨_, rfl, hz2⟩ (fun w => RX.str_neq rfl rfl) ?_
          refine JA.take 31 (listed' := [true,true,true,true,true,true,true,true,true,true,true,true,true,true,true,true,true,true,true,true,true,true,true,true,true,true,true,true,true,true,true,true,false]) rfl (by kernel_rfl) (by kernel_rfl) (by kernel_rfl) rfl ⟨_, rfl, (decide_eq_false (by omega))⟩ (fun w => RX.pick_t rfl hz2) ?_
          refine JA.take 32 (listed' := [true,true,true,true,true,true,true,true,true,true,true,true,true,true,true,true,true,true,true,true,true,true,true,true,true,true,true,true,true,true,true,true,true]) rfl (by kernel_rfl) (by kernel_rfl) (by kernel_rfl) rfl trivial (fun w => RX.pick_f rfl (decide_eq_false (by omega))) ?_
          refine JA.done (by kernel_rfl) ?_
          refine J.cond_f rfl (by first | rfl | exact hz2 | (subst hyk; exact decide_eq_false (fun h => h rfl))) ?_
          refine J.skip ?_
          refine J.inBlock ?_
          refine J.region ?_
          refine JL.go trivial (RX.add rfl rfl (w_i64 rfl (by omega) (by omega))) ?_
          refine JL.go trivial (RX.movev (v := Value.int _ _) rfl) ?_
          refine JL.nil ?_
          first
          | exact IH (i + 1, at_ + k) _ _ (by simp only; omega) ⟨rfl, rfl, rfl, rfl, trivial⟩ ⟨rfl, trivial⟩ ⟨by simp only; omega, by simp only; omega, H.drop.drop.drop⟩
          | exact IH (i + 1, at_ + k) _ _ (by simp only; omega) ⟨rfl, rfl, rfl, rfl, trivial⟩ ⟨rfl, trivial⟩ ⟨by simp only; omega, by simp only; omega, H.drop.drop⟩
          | exact IH (i + 1, at_) _ _ (by simp only; omega) ⟨rfl, rfl, rfl, rfl, trivial⟩ ⟨rfl, trivial⟩ ⟨by simp only; omega, hat, H.drop.drop⟩
    · skip
      refine J.seq ?_
      refine J.region ?_
      refine JL.go trivial (RX.eq rfl rfl) ?_
      refine JL.go trivial (RX.assignv (v := Value.bool _) rfl) ?_
      refine JL.nil ?_
      refine J.cond_d rfl (fun h1 => ?_) (fun h1 => ?_)
      · skip
        refine J.seq ?_
        refine J.region ?_
        refine JL.go trivial (RX.movev (v := Value.pointer _) rfl) ?_
        replace H := (H.pull 3 rfl).pull 3 rfl
        refine JL.does trivial (EX.call rfl cl26 rfl ((rInt_c H hor hat (by omega) hE.cons.cons.cons))) ?_
        rintro _ w ⟨rfl, H⟩
        obtain ⟨he, hek, hkl, hys⟩ := one_form (d := 0) (f := fun z => varint (zig (z))) (rI_g (bs.drop at_)) (fun a k h => rI_b h)
        rw [List.length_drop] at hkl
        replace hys : (rI (bs.drop at_)).code = 0 → varint (zig ((rI (bs.drop at_)).val 0)) = (bs.drop at_).take (rI (bs.drop at_)).k := hys
        generalize hee : (rI (bs.drop at_)).code = e at he hek hys ⊢
        generalize hkk : (rI (bs.drop at_)).k = k at hek hkl hys H
        clear hee hkk
        refine JL.go trivial (RX.movev (v := Value.tuple _) rfl) ?_
        refine JL.go trivial (RX.extract rfl rfl) ?_
        refine JL.go trivial (RX.extract (v := errV E e) rfl rfl) ?_
        refine JL.go trivial (RX.assignv (v := Value.int _ _) rfl) ?_
        refine JL.go trivial (RX.assignv (v := errV E e) rfl) ?_
        refine JL.nil ?_
        refine J.seq ?_
        refine J.region ?_
        refine JL.go trivial (RX.movev (v := errV E e) rfl) ?_
        refine JL.go trivial (RX.assignv (v := errV E e) rfl) ?_
        refine JL.nil ?_
        refine J.region ?_
        refine JL.go trivial (RX.movev (v := Value.pointer _) rfl) ?_
        refine JL.go trivial (RX.movev (v := Value.int _ _) rfl) ?_
        replace H := (H.pull 3 rfl).pull 3 rfl
        refine JL.does trivial (EX.call rfl cl27 rfl ((Int_c (xs := []) ⟨none, 0, [], OwnSl.nil, H⟩ (rI_okv _).1 (rI_okv _).2 (by decide)))) ?_
        rintro _ w ⟨rfl, p, cp, s, ho, H⟩
        rw [List.nil_append] at ho H
        generalize varint (zig ((rI (bs.drop at_)).val 0)) = ys at ho H hys
        refine JL.nil ?_
        refine J.inBlock ?_
        refine J.seq ?_
        refine J.region ?_
        refine JL.go trivial (RX.movev (v := Value.pointer _) rfl) ?_
        refine JL.does trivial (EX.call rfl cl19 rfl ((at_r (i := 2) H rfl))) ?_
        rintro _ w ⟨rfl, H⟩
        refine JL.go trivial (RX.assignv (v := Value.int _ _) rfl) ?_
        refine JL.nil ?_
        refine J.seq ?_
        obtain ⟨hie, hnn⟩ := er_ie hE he
        refine J.any hmix fun w hs => ?_
        replace H := H.same hs; clear hs
        refine JA.take 0 (listed' := [true,false,false,false,false,false,false,false,false,false,false,false,false,false,false,false,false,false,false,false,false,false,false,false,false,false,false,false,false,false,false,false,false]) rfl (by kernel_rfl) (by kernel_rfl) (by kernel_rfl) rfl trivial (fun w => RX.movev (v := errV E e) rfl) ?_
        refine JA.take 1 (listed' := [true,true,false,false,false,false,false,false,false,false,false,false,false,false,false,false,false,false,false,false,false,false,false,false,false,false,false,false,false,false,false,false,false]) rfl (by kernel_rfl) (by kernel_rfl) (by kernel_rfl) rfl trivial (fun w => RX.ifnil_neq (v := errV E e) rfl rfl hie if40) ?_
        refine JA.take 2 (listed' := [true,true,true,false,false,false,false,false,false,false,false,false,false,false,false,false,false,false,false,false,false,false,false,false,false,false,false,false,false,false,false,false,false]) rfl (by kernel_rfl) (by kernel_rfl) (by kernel_rfl) rfl trivial (fun w => RX.movev (v := Value.bool _) rfl) ?_
        refine JA.splitS 152 rfl (fun hz => ?_) (fun hz => ?_)
        · skip
          first | have hzp := of_decide_eq_true hz | skip
          have hz2 : isNil (errV E e) = false := by simpa using hz
          have he0 : ¬ e = 0 := by intro h; rw [hnn, decide_eq_true h] at hz2; cases hz2
          have hk0 := hek he0
          refine JA.take 3 (listed' := [true,true,true,true,false,false,false,false,false,false,false,false,false,false,false,false,false,false,false,false,false,false,false,false,false,false,false,false,false,false,false,false,false]) rfl (by kernel_rfl) (by kernel_rfl) (by kernel_rfl) rfl ⟨_, rfl, hz⟩ (fun w => RX.movev (v := Value.int _ _) rfl) ?_
          refine JA.take 4 (listed' := [true,true,true,true,true,false,false,false,false,false,false,false,false,false,false,false,false,false,false,false,false,false,false,false,false,false,false,false,false,false,false,false,false]) rfl (by kernel_rfl) (by kernel_rfl) (by kernel_rfl) rfl ⟨_, rfl, hz⟩ (fun w => RX.movev (v := Value.int _ _) rfl) ?_
          refine JA.take 5 (listed' := [true,true,true,true,true,true,false,false,false,false,false,false,false,false,false,false,false,false,false,false,false,false,false,false,false,false,false,false,false,false,false,false,false]) rfl (by kernel_rfl) (by kernel_rfl) (by kernel_rfl) rfl ⟨_, rfl, hz⟩ (fun w => RX.ne rfl rfl) ?_
          refine JA.take 6 (listed' := [true,true,true,true,true,true,true,false,false,false,false,false,false,false,false,false,false,false,false,false,false,false,false,false,false,false,false,false,false,false,false,false,false]) rfl (by kernel_rfl) (by kernel_rfl) (by kernel_rfl) rfl trivial (fun w => RX.pick_t rfl hz) ?_
          refine JA.take 7 (listed' := [true,true,true,true,true,true,true,true,false,false,false,false,false,false,false,false,false,false,false,false,false,false,false,false,false,false,false,false,false,false,false,false,false]) rfl (by kernel_rfl) (by kernel_rfl) (by kernel_rfl) rfl trivial (fun w => RX.movev (v := Value.bool _) rfl) ?_
          refine JA.take 8 (listed' := [true,true,true,true,true,true,true,true,true,false,false,false,false,false,false,false,false,false,false,false,false,false,false,false,false,false,false,false,false,false,false,false,false]) rfl (by kernel_rfl) (by kernel_rfl) (by kernel_rfl) rfl ⟨_, rfl, (by first | rfl | exact decide_eq_false (by omega))⟩ (fun w => RX.movev (v := Value.int _ _) rfl) ?_
          refine JA.take 9 (listed' := [true,true,true,true,true,true,true,true,true,true,false,false,false,false,false,false,false,false,false,false,false,false,false,false,false,false,false,false,false,false,false,false,false]) rfl (by kernel_rfl) (by kernel_rfl) (by kernel_rfl) rfl ⟨_, rfl, (by first | rfl | exact decide_eq_false (by omega))⟩ (fun w => RX.movev (v := Value.int _ _) rfl) ?_
          refine JA.take 10 (listed' := [true,true,true,true,true,true,true,true,true,true,true,false,false,false,false,false,false,false,false,false,false,false,false,false,false,false,false,false,false,false,false,false,false]) rfl (by kernel_rfl) (by kernel_rfl) (by kernel_rfl) rfl ⟨_, rfl, (by first | rfl | exact decide_eq_false (by omega))⟩ (fun w => RX.lt rfl rfl) ?_
          refine JA.take 11 (listed' := [true,true,true,true,true,true,true,true,true,true,true,true,false,false,false,false,false,false,false,false,false,false,false,false,false,false,false,false,false,false,false,false,false]) rfl (by kernel_rfl) (by kernel_rfl) (by kernel_rfl) rfl trivial (fun w => RX.pick_f rfl (by first | rfl | exact decide_eq_false (by omega))) ?_
          refine JA.take 12 (listed' := [true,true,true,true,true,true,true,true,true,true,true,true,true,false,false,false,false,false,false,false,false,false,false,false,false,false,false,false,false,false,false,false,false]) rfl (by kernel_rfl) (by kernel_rfl) (by kernel_rfl) rfl trivial (fun w => RX.movev (v := Value.bool _) rfl) ?_
          refine JA.take 13 (listed' := [true,true,true,true,true,true,true,true,true,true,true,true,true,true,false,false,false,false,false,false,false,false,false,false,false,false,false,false,false,false,false,false,false]) rfl (by kernel_rfl) (by kernel_rfl) (by kernel_rfl) rfl ⟨_, rfl, (decide_eq_false (by omega))⟩ (fun w => RX.movev (v := Value.int _ _) rfl) ?_
          refine JA.take 14 (listed' := [true,true,true,true,true,true,true,true,true,true,true,true,true,true,true,false,false,false,false,false,false,false,false,false,false,false,false,false,false,false,false,false,false]) rfl (by kernel_rfl) (by kernel_rfl) (by kernel_rfl) rfl ⟨_, rfl, (decide_eq_false (by omega))⟩ (fun w => RX.movev (v := Value.slice _ _ _) rfl) ?_
          refine JA.take 15 (listed' := [true,true,true,true,true,true,true,true,true,true,true,true,true,true,true,true,false,false,false,false,false,false,false,false,false,false,false,false,false,false,false,false,false]) rfl (by kernel_rfl) (by kernel_rfl) (by kernel_rfl) rfl ⟨_, rfl, (decide_eq_false (by omega))⟩ (fun w => RX.len_slice rfl (by rw [sl26]; rfl) rfl) ?_
          refine JA.take 16 (listed' := [true,true,true,true,true,true,true,true,true,true,true,true,true,true,true,true,true,false,false,false,false,false,false,false,false,false,false,false,false,false,false,false,false]) rfl (by kernel_rfl) (by kernel_rfl) (by kernel_rfl) rfl ⟨_, rfl, (decide_eq_false (by omega))⟩ (fun w => RX.gt rfl rfl) ?_
          refine JA.take 17 (listed' := [true,true,true,true,true,true,true,true,true,true,true,true,true,true,true,true,true,true,false,false,false,false,false,false,false,false,false,false,false,false,false,false,false]) rfl (by kernel_rfl) (by kernel_rfl) (by kernel_rfl) rfl trivial (fun w => RX.pick_f rfl (decide_eq_false (by omega))) ?_
          refine JA.take 18 (listed' := [true,true,true,true,true,true,true,true,true,true,true,true,true,true,true,true,true,true,true,false,false,false,false,false,false,false,false,false,false,false,false,false,false]) rfl (by kernel_rfl) (by kernel_rfl) (by kernel_rfl) rfl trivial (fun w => RX.movev (v := Value.bool _) rfl) ?_
          refine JA.take 19 (listed' := [true,true,true,true,true,true,true,true,true,true,true,true,true,true,true,true,true,true,true,true,false,false,false,false,false,false,false,false,false,false,false,false,false]) rfl (by kernel_rfl) (by kernel_rfl) (by kernel_rfl) rfl ⟨_, rfl, (decide_eq_false (by omega))⟩ (fun w => RX.movev (v := errV E e) rfl) ?_
          refine JA.take 20 (listed' := [true,true,true,true,true,true,true,true,true,true,true,true,true,true,true,true,true,true,true,true,true,false,false,false,false,false,false,false,false,false,false,false,false]) rfl (by kernel_rfl) (by kernel_rfl) (by kernel_rfl) rfl ⟨_, rfl, (decide_eq_false (by omega))⟩ (fun w => RX.ifnil_eql (v := errV E e) rfl rfl hie if40) ?_
          refine JA.take 21 (listed' := [true,true,true,true,true,true,true,true,true,true,true,true,true,true,true,true,true,true,true,true,true,true,false,false,false,false,false,false,false,false,false,false,false]) rfl (by kernel_rfl) (by kernel_rfl) (by kernel_rfl) rfl ⟨_, rfl, (decide_eq_false (by omega))⟩ (fun w => RX.movev (v := Value.bool _) rfl) ?_
          refine JA.takeno 22 (listed' := [true,true,true,true,true,true,true,true,true,true,true,true,true,true,true,true,true,true,true,true,true,true,true,false,false,false,false,false,false,false,false,false,false]) rfl (by kernel_rfl) (by kernel_rfl) (by kernel_rfl) rfl ⟨_, rfl, gno hz2⟩ ?_
          refine JA.takeno 23 (listed' := [true,true,true,true,true,true,true,true,true,true,true,true,true,true,true,true,true,true,true,true,true,true,true,true,false,false,false,false,false,false,false,false,false]) rfl (by kernel_rfl) (by kernel_rfl) (by kernel_rfl) rfl ⟨_, rfl, gno hz2⟩ ?_
          refine JA.takeno 24 (listed' := [true,true,true,true,true,true,true,true,true,true,true,true,true,true,true,true,true,true,true,true,true,true,true,true,true,false,false,false,false,false,false,false,false]) rfl (by kernel_rfl) (by kernel_rfl) (by kernel_rfl) rfl ⟨_, rfl, gno hz2⟩ ?_
          refine JA.takeno 25 (listed' := [true,true,true,true,true,true,true,true,true,true,true,true,true,true,true,true,true,true,true,true,true,true,true,true,true,true,false,false,false,false,false,false,false]) rfl (by kernel_rfl) (by kernel_rfl) (by kernel_rfl) rfl ⟨_, rfl, gno hz2⟩ ?_
          refine JA.takeno 26 (listed' := [true,true,true,true,true,true,true,true,true,true,true,true,true,true,true,true,true,true,true,true,true,true,true,true,true,true,true,false,false,false,false,false,false]) rfl (by kernel_rfl) (by kernel_rfl) (by kernel_rfl) rfl ⟨_, rfl, gno hz2⟩ ?_
          refine JA.takeno 27 (listed' := [true,true,true,true,true,true,true,true,true,true,true,true,true,true,true,true,true,true,true,true,true,true,true,true,true,true,true,true,false,false,false,false,false]) rfl (by kernel_rfl) (by kernel_rfl) (by kernel_rfl) rfl ⟨_, rfl, gno hz2⟩ ?_
          refine JA.takeno 28 (listed' := [true,true,true,true,true,true,true,true,true,true,true,true,true,true,true,true,true,true,true,true,true,true,true,true,true,true,true,true,true,false,false,false,false]) rfl (by kernel_rfl) (by kernel_rfl) (by kernel_rfl) rfl ⟨_, rfl, gno hz2⟩ ?_
          refine JA.takeno 29 (listed' := [true,true,true,true,true,true,true,true,true,true,true,true,true,true,true,true,true,true,true,true,true,true,true,true,true,true,true,true,true,true,false,false,false]) rfl (by kernel_rfl) (by kernel_rfl) (by kernel_rfl) rfl ⟨_, rfl, gno hz2⟩ ?_
          refine JA.takeno 30 (listed' := [true,true,true,true,true,true,true,true,true,true,true,true,true,true,true,true,true,true,true,true,true,true,true,true,true,true,true,true,true,true,true,false,false]) rfl (by kernel_rfl) (by kernel_rfl) (by kernel_rfl) rfl ⟨_, rfl, gno hz2⟩ ?_
          refine JA.take 31 (listed' := [true,true,true,true,true,true,true,true,true,true,true,true,true,true,true,true,true,true,true,true,true,true,true,true,true,true,true,true,true,true,true,true,false]) rfl (by kernel_rfl) (by kernel_rfl) (by kernel_rfl) rfl ⟨_, rfl, (decide_eq_false (by omega))⟩ (fun w => RX.pick_f rfl hz2) ?_
          refine JA.take 32 (listed' := [true,true,true,true,true,true,true,true,true,true,true,true,true,true,true,true,true,true,true,true,true,true,true,true,true,true,true,true,true,true,true,true,true]) rfl (by kernel_rfl) (by kernel_rfl) (by kernel_rfl) rfl trivial (fun w => RX.pick_f rfl (decide_eq_false (by omega))) ?_
          refine JA.done (by kernel_rfl) ?_
          refine J.cond_f rfl (by first | rfl | exact hz2 | (subst hyk; exact decide_eq_false (fun h => h rfl))) ?_
          refine J.skip ?_
          refine J.inBlock ?_
          refine J.region ?_
          refine JL.go trivial (RX.add rfl rfl (w_i64 rfl (by omega) (by omega))) ?_
          refine JL.go trivial (RX.movev (v := Value.int _ _) rfl) ?_
          refine JL.nil ?_
          first
          | exact IH (i + 1, at_ + k) _ _ (by simp only; omega) ⟨rfl, rfl, rfl, rfl, trivial⟩ ⟨rfl, trivial⟩ ⟨by simp only; omega, by simp only; omega, H.drop.drop.drop⟩
          | exact IH (i + 1, at_ + k) _ _ (by simp only; omega) ⟨rfl, rfl, rfl, rfl, trivial⟩ ⟨rfl, trivial⟩ ⟨by simp only; omega, by simp only; omega, H.drop.drop⟩
          | exact IH (i + 1, at_) _ _ (by simp only; omega) ⟨rfl, rfl, rfl, rfl, trivial⟩ ⟨rfl, trivial⟩ ⟨by simp only; omega, hat, H.drop.drop⟩
        · skip
          first | have hzp := of_decide_eq_false hz | skip
          have hz2 : isNil (errV E e) = true := by simpa using hz
          have he0 : e = 0 := of_decide_eq_true (hnn.symm.trans hz2)
          have hyk := hys he0
          have hyl : ys.length = k := by rw [hyk, List.length_take, List.length_drop]; omega
          have hslice : SlAt F (behind bp bc at_ 1) (bv ((bs.drop at_).take k)) := by
            have h := (SlAt.behind (cap := bc) (r := at_) (sz := 1) hbs (by rw [bv_len]; omega)).take (n := k)
            rw [bv_part] at h
            exact h
          refine JA.takeno 3 (listed' := [true,true,true,true,false,false,false,false,false,false,false,false,false,false,false,false,false,false,false,false,false,false,false,false,false,false,false,false,false,false,false,false,false]) rfl (by kernel_rfl) (by kernel_rfl) (by kernel_rfl) rfl ⟨_, rfl, gno hz⟩ ?_
          refine JA.takeno 4 (listed' := [true,true,true,true,true,false,false,false,false,false,false,false,false,false,false,false,false,false,false,false,false,false,false,false,false,false,false,false,false,false,false,false,false]) rfl (by kernel_rfl) (by kernel_rfl) (by kernel_rfl) rfl ⟨_, rfl, gno hz⟩ ?_
          refine JA.takeno 5 (listed' := [true,true,true,true,true,true,false,false,false,false,false,false,false,false,false,false,false,false,false,false,false,false,false,false,false,false,false,false,false,false,false,false,false]) rfl (by kernel_rfl) (by kernel_rfl) (by kernel_rfl) rfl ⟨_, rfl, gno hz⟩ ?_
          refine JA.take 6 (listed' := [true,true,true,true,true,true,true,false,false,false,false,false,false,false,false,false,false,false,false,false,false,false,false,false,false,false,false,false,false,false,false,false,false]) rfl (by kernel_rfl) (by kernel_rfl) (by kernel_rfl) rfl trivial (fun w => RX.pick_f rfl hz) ?_
          refine JA.take 7 (listed' := [true,true,true,true,true,true,true,true,false,false,false,false,false,false,false,false,false,false,false,false,false,false,false,false,false,false,false,false,false,false,false,false,false]) rfl (by kernel_rfl) (by kernel_rfl) (by kernel_rfl) rfl trivial (fun w => RX.movev (v := Value.bool _) rfl) ?_
          refine JA.take 8 (listed' := [true,true,true,true,true,true,true,true,true,false,false,false,false,false,false,false,false,false,false,false,false,false,false,false,false,false,false,false,false,false,false,false,false]) rfl (by kernel_rfl) (by kernel_rfl) (by kernel_rfl) rfl ⟨_, rfl, rfl⟩ (fun w => RX.movev (v := Value.int _ _) rfl) ?_
          refine JA.take 9 (listed' := [true,true,true,true,true,true,true,true,true,true,false,false,false,false,false,false,false,false,false,false,false,false,false,false,false,false,false,false,false,false,false,false,false]) rfl (by kernel_rfl) (by kernel_rfl) (by kernel_rfl) rfl ⟨_, rfl, rfl⟩ (fun w => RX.movev (v := Value.int _ _) rfl) ?_
          refine JA.take 10 (listed' := [true,true,true,true,true,true,true,true,true,true,true,false,false,false,false,false,false,false,false,false,false,false,false,false,false,false,false,false,false,false,false,false,false]) rfl (by kernel_rfl) (by kernel_rfl) (by kernel_rfl) rfl ⟨_, rfl, rfl⟩ (fun w => RX.lt rfl rfl) ?_
          refine JA.take 11 (listed' := [true,true,true,true,true,true,true,true,true,true,true,true,false,false,false,false,false,false,false,false,false,false,false,false,false,false,false,false,false,false,false,false,false]) rfl (by kernel_rfl) (by kernel_rfl) (by kernel_rfl) rfl trivial (fun w => RX.pick_f rfl rfl) ?_
          refine JA.take 12 (listed' := [true,true,true,true,true,true,true,true,true,true,true,true,true,false,false,false,false,false,false,false,false,false,false,false,false,false,false,false,false,false,false,false,false]) rfl (by kernel_rfl) (by kernel_rfl) (by kernel_rfl) rfl trivial (fun w => RX.movev (v := Value.bool _) rfl) ?_
          refine JA.take 13 (listed' := [true,true,true,true,true,true,true,true,true,true,true,true,true,true,false,false,false,false,false,false,false,false,false,false,false,false,false,false,false,false,false,false,false]) rfl (by kernel_rfl) (by kernel_rfl) (by kernel_rfl) rfl ⟨_, rfl, (decide_eq_false (by omega))⟩ (fun w => RX.movev (v := Value.int _ _) rfl) ?_
          refine JA.take 14 (listed' := [true,true,true,true,true,true,true,true,true,true,true,true,true,true,true,false,false,false,false,false,false,false,false,false,false,false,false,false,false,false,false,false,false]) rfl (by kernel_rfl) (by kernel_rfl) (by kernel_rfl) rfl ⟨_, rfl, (decide_eq_false (by omega))⟩ (fun w => RX.movev (v := Value.slice _ _ _) rfl) ?_
          refine JA.take 15 (listed' := [true,true,true,true,true,true,true,true,true,true,true,true,true,true,true,true,false,false,false,false,false,false,false,false,false,false,false,false,false,false,false,false,false]) rfl (by kernel_rfl) (by kernel_rfl) (by kernel_rfl) rfl ⟨_, rfl, (decide_eq_false (by omega))⟩ (fun w => RX.len_slice rfl (by rw [sl26]; rfl) rfl) ?_
          refine JA.take 16 (listed' := [true,true,true,true,true,true,true,true,true,true,true,true,true,true,true,true,true,false,false,false,false,false,false,false,false,false,false,false,false,false,false,false,false]) rfl (by kernel_rfl) (by kernel_rfl) (by kernel_rfl) rfl ⟨_, rfl, (decide_eq_false (by omega))⟩ (fun w => RX.gt rfl rfl) ?_
          refine JA.take 17 (listed' := [true,true,true,true,true,true,true,true,true,true,true,true,true,true,true,true,true,true,false,false,false,false,false,false,false,false,false,false,false,false,false,false,false]) rfl (by kernel_rfl) (by kernel_rfl) (by kernel_rfl) rfl trivial (fun w => RX.pick_f rfl (decide_eq_false (by omega))) ?_
          refine JA.take 18 (listed' := [true,true,true,true,true,true,true,true,true,true,true,true,true,true,true,true,true,true,true,false,false,false,false,false,false,false,false,false,false,false,false,false,false]) rfl (by kernel_rfl) (by kernel_rfl) (by kernel_rfl) rfl trivial (fun w => RX.movev (v := Value.bool _) rfl) ?_
          refine JA.take 19 (listed' := [true,true,true,true,true,true,true,true,true,true,true,true,true,true,true,true,true,true,true,true,false,false,false,false,false,false,false,false,false,false,false,false,false]) rfl (by kernel_rfl) (by kernel_rfl) (by kernel_rfl) rfl ⟨_, rfl, (decide_eq_false (by omega))⟩ (fun w => RX.movev (v := errV E e) rfl) ?_
          refine JA.take 20 (listed' := [true,true,true,true,true,true,true,true,true,true,true,true,true,true,true,true,true,true,true,true,true,false,false,false,false,false,false,false,false,false,false,false,false]) rfl (by kernel_rfl) (by kernel_rfl) (by kernel_rfl) rfl ⟨_, rfl, (decide_eq_false (by omega))⟩ (fun w => RX.ifnil_eql (v := errV E e) rfl rfl hie if40) ?_
          refine JA.take 21 (listed' := [true,true,true,true,true,true,true,true,true,true,true,true,true,true,true,true,true,true,true,true,true,true,false,false,false,false,false,false,false,false,false,false,false]) rfl (by kernel_rfl) (by kernel_rfl) (by kernel_rfl) rfl ⟨_, rfl, (decide_eq_false (by omega))⟩ (fun w => RX.movev (v := Value.bool _) rfl) ?_
          refine JA.take 22 (listed' := [true,true,true,true,true,true,true,true,true,true,true,true,true,true,true,true,true,true,true,true,true,true,true,false,false,false,false,false,false,false,false,false,false]) rfl (by kernel_rfl) (by kernel_rfl) (by kernel_rfl) rfl ⟨_, rfl, hz2⟩ (fun w => RX.movev (v := Value.pointer _) rfl) ?_
          refine JA.take 25 (listed' := [true,true,true,true,true,true,true,true,true,true,true,true,true,true,true,true,true,true,true,true,true,true,true,false,false,true,false,false,false,false,false,false,false]) rfl (by kernel_rfl) (by kernel_rfl) (by kernel_rfl) rfl ⟨_, rfl, hz2⟩ (fun w => RX.movev (v := Value.slice _ _ _) rfl) ?_
          refine JA.take 26 (listed' := [true,true,true,true,true,true,true,true,true,true,true,true,true,true,true,true,true,true,true,true,true,true,true,false,false,true,true,false,false,false,false,false,false]) rfl (by kernel_rfl) (by kernel_rfl) (by kernel_rfl) rfl ⟨_, rfl, hz2⟩ (fun w => RX.movev (v := Value.int _ _) rfl) ?_
          refine JA.take 27 (listed' := [true,true,true,true,true,true,true,true,true,true,true,true,true,true,true,true,true,true,true,true,true,true,true,false,false,true,true,true,false,false,false,false,false]) rfl (by kernel_rfl) (by kernel_rfl) (by kernel_rfl) rfl ⟨_, rfl, hz2⟩ (fun w => RX.movev (v := Value.int _ _) rfl) ?_
          refine JA.take 28 (listed' := [true,true,true,true,true,true,true,true,true,true,true,true,true,true,true,true,true,true,true,true,true,true,true,false,false,true,true,true,true,false,false,false,false]) rfl (by kernel_rfl) (by kernel_rfl) (by kernel_rfl) rfl ⟨_, rfl, hz2⟩ (fun w => RX.slice_lh2 rfl rfl rfl sl26 (fun a ha => (hsp a ha).imp id (fun h => by omega)) (by omega) (by omega) (by omega) (r := at_) (s := at_ + k) rfl rfl) ?_
          refine JA.all [23, 29] (by kernel_rfl) (by decide) ?_
          refine ⟨?_, ?_⟩
          · skip
            refine JO.does (listed' := [true,true,true,true,true,true,true,true,true,true,true,true,true,true,true,true,true,true,true,true,true,true,true,true,false,true,true,true,true,false,false,false,false]) rfl rfl ⟨_, rfl, hz2⟩ (EX.call rfl cl12 rfl ((out_w H ho (by omega)))) ?_
            rintro _ w ⟨q, qc, qs, rfl, hoq, H⟩
            refine JA.all [24, 29] (by kernel_rfl) (by decide) ?_
            refine ⟨?_, ?_⟩
            · skip
              refine JO.go (listed' := [true,true,true,true,true,true,true,true,true,true,true,true,true,true,true,true,true,true,true,true,true,true,true,true,true,true,true,true,true,false,false,false,false]) rfl rfl ⟨_, rfl, hz2⟩ (RX.b2s (l := ys) H rfl hoq.slAt sl26 ud5 ud9) ?_
              refine JA.all [29] (by kernel_rfl) (by decide) ?_
              rw [show at_ + k - at_ = ((bs.drop at_).take k).length by rw [List.length_take, List.length_drop]; omega]
              refine JO.go (listed' := [true,true,true,true,true,true,true,true,true,true,true,true,true,true,true,true,true,true,true,true,true,true,true,true,true,true,true,true,true,true,false,false,false]) rfl rfl ⟨_, rfl, hz2⟩ (RX.b2s (l := (bs.drop at_).take k) H rfl (by first | exact hslice.cons.cons.cons.cons.cons.cons | exact hslice.cons.cons.cons.cons.cons) sl26 ud5 ud9) ?_
              refine JA.take 30 (listed' := [true,true,true,true,true,true,true,true,true,true,true,true,true,true,true,true,true,true,true,true,true,true,true,true,true,true,true,true,true,true,true,false,false]) rfl (by kernel_rfl) (by kernel_rfl) (by kernel_rfl) rfl ⟨_, rfl, hz2⟩ (fun w => RX.str_neq rfl rfl) ?_
              refine JA.take 31 (listed' := [true,true,true,true,true,true,true,true,true,true,true,true,true,true,true,true,true,true,true,true,true,true,true,true,true,true,true,true,true,true,true,true,false]) rfl (by kernel_rfl) (by kernel_rfl) (by kernel_rfl) rfl ⟨_, rfl, (decide_eq_false (by omega))⟩ (fun w => RX.pick_t rfl hz2) ?_
              refine JA.take 32 (listed' := [true,true,true,true,true,true,true,true,true,true,true,true,true,true,true,true,true,true,true,true,true,true,true,true,true,true,true,true,true,true,true,true,true]) rfl (by kernel_rfl) (by kernel_rfl) (by kernel_rfl) rfl trivial (fun w => RX.pick_f rfl (decide_eq_false (by omega))) ?_
              refine JA.done (by kernel_rfl) ?_
              refine J.cond_f rfl (by first | rfl | exact hz2 | (subst hyk; exact decide_eq_false (fun h => h rfl))) ?_
              refine J.skip ?_
              refine J.inBlock ?_
              refine J.region ?_
              refine JL.go trivial (RX.add rfl rfl (w_i64 rfl (by omega) (by omega))) ?_
              refine JL.go trivial (RX.movev (v := Value.int _ _) rfl) ?_
              refine JL.nil ?_
              first
              | exact IH (i + 1, at_ + k) _ _ (by simp only; omega) ⟨rfl, rfl, rfl, rfl, trivial⟩ ⟨rfl, trivial⟩ ⟨by simp only; omega, by simp only; omega, H.drop.drop.drop⟩
              | exact IH (i + 1, at_ + k) _ _ (by simp only; omega) ⟨rfl, rfl, rfl, rfl, trivial⟩ ⟨rfl, trivial⟩ ⟨by simp only; omega, by simp only; omega, H.drop.drop⟩
              | exact IH (i + 1, at_) _ _ (by simp only; omega) ⟨rfl, rfl, rfl, rfl, trivial⟩ ⟨rfl, trivial⟩ ⟨by simp only; omega, hat, H.drop.drop⟩
            · skip
              rw [show at_ + k - at_ = ((bs.drop at_).take k).length by rw [List.length_take, List.length_drop]; omega]
              refine JO.go (listed' := [true,true,true,true,true,true,true,true,true,true,true,true,true,true,true,true,true,true,true,true,true,true,true,true,false,true,true,true,true,true,false,false,false]) rfl rfl ⟨_, rfl, hz2⟩ (RX.b2s (l := (bs.drop at_).take k) H rfl (by first | exact hslice.cons.cons.cons.cons.cons.cons | exact hslice.cons.cons.cons.cons.cons) sl26 ud5 ud9) ?_
              refine JA.all [24] (by kernel_rfl) (by decide) ?_
              refine JO.go (listed' := [true,true,true,true,true,true,true,true,true,true,true,true,true,true,true,true,true,true,true,true,true,true,true,true,true,true,true,true,true,true,false,false,false]) rfl rfl ⟨_, rfl, hz2⟩ (RX.b2s (l := ys) H rfl hoq.slAt sl26 ud5 ud9) ?_
              refine JA.take 30 (listed' := [true,true,true,true,true,true,true,true,true,true,true,true,true,true,true,true,true,true,true,true,true,true,true,true,true,true,true,true,true,true,true,false,false]) rfl (by kernel_rfl) (by kernel_rfl) (by kernel_rfl) rfl ⟨_, rfl, hz2⟩ (fun w => RX.str_neq rfl rfl) ?_
              refine JA.take 31 (listed' := [true,true,true,true,true,true,true,true,true,true,true,true,true,true,true,true,true,true,true,true,true,true,true,true,true,true,true,true,true,true,true,true,false]) rfl (by kernel_rfl) (by kernel_rfl) (by kernel_rfl) rfl ⟨_, rfl, (decide_eq_false (by omega))⟩ (fun w => RX.pick_t rfl hz2) ?_
              refine JA.take 32 (listed' := [true,true,true,true,true,true,true,true,true,true,true,true,true,true,true,true,true,true,true,true,true,true,true,true,true,true,true,true,true,true,true,true,true]) rfl (by kernel_rfl) (by kernel_rfl) (by kernel_rfl) rfl trivial (fun w => RX.pick_f rfl (decide_eq_false (by omega))) ?_
              refine JA.done (by kernel_rfl) ?_
              refine J.cond_f rfl (by first | rfl | exact hz2 | (subst hyk; exact decide_eq_false (fun h => h rfl))) ?_
              refine J.skip ?_
              refine J.inBlock ?_
              refine J.region ?_
              refine JL.go trivial (RX.add rfl rfl (w_i64 rfl (by omega) (by omega))) ?_
              refine JL.go trivial (RX.movev (v := Value.int _ _) rfl) ?_
              refine JL.nil ?_
              first
              | exact IH (i + 1, at_ + k) _ _ (by simp only; omega) ⟨rfl, rfl, rfl, rfl, trivial⟩ ⟨rfl, trivial⟩ ⟨by simp only; omega, by simp only; omega, H.drop.drop.drop⟩
              | exact IH (i + 1, at_ + k) _ _ (by simp only; omega) ⟨rfl, rfl, rfl, rfl, trivial⟩ ⟨rfl, trivial⟩ ⟨by simp only; omega, by simp only; omega, H.drop.drop⟩
              | exact IH (i + 1, at_) _ _ (by simp only; omega) ⟨rfl, rfl, rfl, rfl, trivial⟩ ⟨rfl, trivial⟩ ⟨by simp only; omega, hat, H.drop.drop⟩
          · skip
            rw [show at_ + k - at_ = ((bs.drop at_).take k).length by rw [List.length_take, List.length_drop]; omega]
            refine JO.go (listed' := [true,true,true,true,true,true,true,true,true,true,true,true,true,true,true,true,true,true,true,true,true,true,true,false,false,true,true,true,true,true,false,false,false]) rfl rfl ⟨_, rfl, hz2⟩ (RX.b2s (l := (bs.drop at_).take k) H rfl (by first | exact hslice.cons.cons.cons.cons.cons.cons | exact hslice.cons.cons.cons.cons.cons) sl26 ud5 ud9) ?_
            refine JA.all [23] (by kernel_rfl) (by decide) ?_
            refine JO.does (listed' := [true,true,true,true,true,true,true,true,true,true,true,true,true,true,true,true,true,true,true,true,true,true,true,true,false,true,true,true,true,true,false,false,false]) rfl rfl ⟨_, rfl, hz2⟩ (EX.call rfl cl12 rfl ((out_w H ho (by omega)))) ?_
            rintro _ w ⟨q, qc, qs, rfl, hoq, H⟩
            refine JA.all [24] (by kernel_rfl) (by decide) ?_
            refine JO.go (listed' := [true,true,true,true,true,true,true,true,true,true,true,true,true,true,true,true,true,true,true,true,true,true,true,true,true,true,true,true,true,true,false,false,false]) rfl rfl ⟨_, rfl, hz2⟩ (RX.b2s (l := ys) H rfl hoq.slAt sl26 ud5 ud9) ?_
            refine JA.take 30 (listed' := [true,true,true,true,true,true,true,true,true,true,true,true,true,true,true,true,true,true,true,true,true,true,true,true,true,true,true,true,true,true,true,false,false]) rfl (by kernel_rfl) (by kernel_rfl) (by kernel_rfl) rfl ⟨_, rfl, hz2⟩ (fun w => RX.str_neq rfl rfl) ?_
            refine JA.take 31 (listed' := [true,true,true,true,true,true,true,true,true,true,true,true,true,true,true,true,true,true,true,true,true,true,true,true,true,true,true,true,true,true,true,true,false]) rfl (by kernel_rfl) (by kernel_rfl) (by kernel_rfl) rfl ⟨_, rfl, (decide_eq_false (by omega))⟩ (fun w => RX.pick_t rfl hz2) ?_
            refine JA.take 32 (listed' := [true,true,true,true,true,true,true,true,true,true,true,true,true,true,true,true,true,true,true,true,true,true,true,true,true,true,true,true,true,true,true,true,true]) rfl (by kernel_rfl) (by kernel_rfl) (by kernel_rfl) rfl trivial (fun w => RX.pick_f rfl (decide_eq_false (by omega))) ?_
            refine JA.done (by kernel_rfl) ?_
            refine J.cond_f rfl (by first | rfl | exact hz2 | (subst hyk; exact decide_eq_false (fun h => h rfl))) ?_
            refine J.skip ?_
            refine J.inBlock ?_
            refine J.region ?_
            refine JL.go trivial (RX.add rfl rfl (w_i64 rfl (by omega) (by omega))) ?_
            refine JL.go trivial (RX.movev (v := Value.int _ _) rfl) ?_
            refine JL.nil ?_
            first
            | exact IH (i + 1, at_ + k) _ _ (by simp only; omega) ⟨rfl, rfl, rfl, rfl, trivial⟩ ⟨rfl, trivial⟩ ⟨by simp only; omega, by simp only; omega, H.drop.drop.drop⟩
            | exact IH (i + 1, at_ + k) _ _ (by simp only; omega) ⟨rfl, rfl, rfl, rfl, trivial⟩ ⟨rfl, trivial⟩ ⟨by simp only; omega, by simp only; omega, H.drop.drop⟩
            | exact IH (i + 1, at_) _ _ (by simp only; omega) ⟨rfl, rfl, rfl, rfl, trivial⟩ ⟨rfl, trivial⟩ ⟨by simp only; omega, hat, H.drop.drop⟩
      · skip
        refine J.seq ?_
        refine J.region ?_
        refine JL.go trivial (RX.eq rfl rfl) ?_
        refine JL.go trivial (RX.assignv (v := Value.bool _) rfl) ?_
        refine JL.nil ?_
        refine J.cond_d rfl (fun h2 => ?_) (fun h2 => ?_)
        · skip
          refine J.seq ?_
          refine J.region ?_
          refine JL.go trivial (RX.movev (v := Value.pointer _) rfl) ?_
          replace H := (H.pull 3 rfl).pull 3 rfl
          refine JL.does trivial (EX.call rfl cl28 rfl ((rFloat_c H hor hat (by omega) hE.cons.cons.cons))) ?_
          rintro _ w ⟨rfl, H⟩
          obtain ⟨he, hek, hkl, hys⟩ := one_form (d := 0) (f := fun z => fB (z)) (rFl_g (bs.drop at_)) (fun a k h => rFl_b h)
          rw [List.length_drop] at hkl
          replace hys : (rFl (bs.drop at_)).code = 0 → fB ((rFl (bs.drop at_)).val 0) = (bs.drop at_).take (rFl (bs.drop at_)).k := hys
          generalize hee : (rFl (bs.drop at_)).code = e at he hek hys ⊢
          generalize hkk : (rFl (bs.drop at_)).k = k at hek hkl hys H
          clear hee hkk
          refine JL.go trivial (RX.movev (v := Value.tuple _) rfl) ?_
          refine JL.go trivial (RX.extract rfl rfl) ?_
          refine JL.go trivial (RX.extract (v := errV E e) rfl rfl) ?_
          refine JL.go trivial (RX.assignv (v := Value.float _ _) rfl) ?_
          refine JL.go trivial (RX.assignv (v := errV E e) rfl) ?_
          refine JL.nil ?_
          refine J.seq ?_
          refine J.region ?_
          refine JL.go trivial (RX.movev (v := errV E e) rfl) ?_
          refine JL.go trivial (RX.assignv (v := errV E e) rfl) ?_
          refine JL.nil ?_
          refine J.region ?_
          refine JL.go trivial (RX.movev (v := Value.pointer _) rfl) ?_
          refine JL.go trivial (RX.movev (v := Value.float _ _) rfl) ?_
          replace H := (H.pull 3 rfl).pull 3 rfl
          refine JL.does trivial (EX.call rfl cl29 rfl ((Float_c (xs := []) ⟨none, 0, [], OwnSl.nil, H⟩ (rFl_ok _) (by decide)))) ?_
          rintro _ w ⟨rfl, p, cp, s, ho, H⟩
          rw [List.nil_append] at ho H
          generalize fB ((rFl (bs.drop at_)).val 0) = ys at ho H hys
          refine JL.nil ?_
          refine J.inBlock ?_
          refine J.seq ?_
          refine J.region ?_
          refine JL.go trivial (RX.movev (v := Value.pointer _) rfl) ?_
          refine JL.does trivial (EX.call rfl cl19 rfl ((at_r (i := 2) H rfl))) ?_
          rintro _ w ⟨rfl, H⟩
          refine JL.go trivial (RX.assignv (v := Value.int _ _) rfl) ?_
          refine JL.nil ?_
          refine J.seq ?_
          obtain ⟨hie, hnn⟩ := er_ie hE he
          refine J.any hmix fun w hs => ?_
          replace H := H.same hs; clear hs
          refine JA.take 0 (listed' := [true,false,false,false,false,false,false,false,false,false,false,false,false,false,false,false,false,false,false,false,false,false,false,false,false,false,false,false,false,false,false,false,false]) rfl (by kernel_rfl) (by kernel_rfl) (by kernel_rfl) rfl trivial (fun w => RX.movev (v := errV E e) rfl) ?_
          refine JA.take 1 (listed' := [true,true,false,false,false,false,false,false,false,false,false,false,false,false,false,false,false,false,false,false,false,false,false,false,false,false,false,false,false,false,false,false,false]) rfl (by kernel_rfl) (by kernel_rfl) (by kernel_rfl) rfl trivial (fun w => RX.ifnil_neq (v := errV E e) rfl rfl hie if40) ?_
          refine JA.take 2 (listed' := [true,true,true,false,false,false,false,false,false,false,false,false,false,false,false,false,false,false,false,false,false,false,false,false,false,false,false,false,false,false,false,false,false]) rfl (by kernel_rfl) (by kernel_rfl) (by kernel_rfl) rfl trivial (fun w => RX.movev (v := Value.bool _) rfl) ?_
          refine JA.splitS 152 rfl (fun hz => ?_) (fun hz => ?_)
          · skip
            first | have hzp := of_decide_eq_true hz | skip
            have hz2 : isNil (errV E e) = false := by simpa using hz
            have he0 : ¬ e = 0 := by intro h; rw [hnn, decide_eq_true h] at hz2; cases hz2
            have hk0 := hek he0
            refine JA.take 3 (listed' := [true,true,true,true,false,false,false,false,false,false,false,false,false,false,false,false,false,false,false,false,false,false,false,false,false,false,false,false,false,false,false,false,false]) rfl (by kernel_rfl) (by kernel_rfl) (by kernel_rfl) rfl ⟨_, rfl, hz⟩ (fun w => RX.movev (v := Value.int _ _) rfl) ?_
            refine JA.take 4 (listed' := [true,true,true,true,true,false,false,false,false,false,false,false,false,false,false,false,false,false,false,false,false,false,false,false,false,false,false,false,false,false,false,false,false]) rfl (by kernel_rfl) (by kernel_rfl) (by kernel_rfl) rfl ⟨_, rfl, hz⟩ (fun w => RX.movev (v := Value.int _ _) rfl) ?_
            refine JA.take 5 (listed' := [true,true,true,true,true,true,false,false,false,false,false,false,false,false,false,false,false,false,false,false,false,false,false,false,false,false,false,false,false,false,false,false,false]) rfl (by kernel_rfl) (by kernel_rfl) (by kernel_rfl) rfl ⟨_, rfl, hz⟩ (fun w => RX.ne rfl rfl) ?_
            refine JA.take 6 (listed' := [true,true,true,true,true,true,true,false,false,false,false,false,false,false,false,false,false,false,false,false,false,false,false,false,false,false,false,false,false,false,false,false,false]) rfl (by kernel_rfl) (by kernel_rfl) (by kernel_rfl) rfl trivial (fun w => RX.pick_t rfl hz) ?_
            refine JA.take 7 (listed' := [true,true,true,true,true,true,true,true,false,false,false,false,false,false,false,false,false,false,false,false,false,false,false,false,false,false,false,false,false,false,false,false,false]) rfl (by kernel_rfl) (by kernel_rfl) (by kernel_rfl) rfl trivial (fun w => RX.movev (v := Value.bool _) rfl) ?_
            refine JA.take 8 (listed' := [true,true,true,true,true,true,true,true,true,false,false,false,false,false,false,false,false,false,false,false,false,false,false,false,false,false,false,false,false,false,false,false,false]) rfl (by kernel_rfl) (by kernel_rfl) (by kernel_rfl) rfl ⟨_, rfl, (by first | rfl | exact decide_eq_false (by omega))⟩ (fun w => RX.movev (v := Value.int _ _) rfl) ?_
            refine JA.take 9 (listed' := [true,true,true,true,true,true,true,true,true,true,false,false,false,false,false,false,false,false,false,false,false,false,false,false,false,false,false,false,false,false,false,false,false]) rfl (by kernel_rfl) (by kernel_rfl) (by kernel_rfl) rfl ⟨_, rfl, (by first | rfl | exact decide_eq_false (by omega))⟩ (fun w => RX.movev (v := Value.int _ _) rfl) ?_
            refine JA.take 10 (listed' := [true,true,true,true,true,true,true,true,true,true,true,false,false,false,false,false,false,false,false,false,false,false,false,false,false,false,false,false,false,false,false,false,false]) rfl (by kernel_rfl) (by kernel_rfl) (by kernel_rfl) rfl ⟨_, rfl, (by first | rfl | exact decide_eq_false (by omega))⟩ (fun w => RX.lt rfl rfl) ?_
            refine JA.take 11 (listed' := [true,true,true,true,true,true,true,true,true,true,true,true,false,false,false,false,false,false,false,false,false,false,false,false,false,false,false,false,false,false,false,false,false]) rfl (by kernel_rfl) (by kernel_rfl) (by kernel_rfl) rfl trivial (fun w => RX.pick_f rfl (by first | rfl | exact decide_eq_false (by omega))) ?_
            refine JA.take 12 (listed' := [true,true,true,true,true,true,true,true,true,true,true,true,true,false,false,false,false,false,false,false,false,false,false,false,false,false,false,false,false,false,false,false,false]) rfl (by kernel_rfl) (by kernel_rfl) (by kernel_rfl) rfl trivial (fun w => RX.movev (v := Value.bool _) rfl) ?_
            refine JA.take 13 (listed' := [true,true,true,true,true,true,true,true,true,true,true,true,true,true,false,false,false,false,false,false,false,false,false,false,false,false,false,false,false,false,false,false,false]) rfl (by kernel_rfl) (by kernel_rfl) (by kernel_rfl) rfl ⟨_, rfl, (decide_eq_false (by omega))⟩ (fun w => RX.movev (v := Value.int _ _) rfl) ?_
            refine JA.take 14 (listed' := [true,true,true,true,true,true,true,true,true,true,true,true,true,true,true,false,false,false,false,false,false,false,false,false,false,false,false,false,false,false,false,false,false]) rfl (by kernel_rfl) (by kernel_rfl) (by kernel_rfl) rfl ⟨_, rfl, (decide_eq_false (by omega))⟩ (fun w => RX.movev (v := Value.slice _ _ _) rfl) ?_
            refine JA.take 15 (listed' := [true,true,true,true,true,true,true,true,true,true,true,true,true,true,true,true,false,false,false,false,false,false,false,false,false,false,false,false,false,false,false,false,false]) rfl (by kernel_rfl) (by kernel_rfl) (by kernel_rfl) rfl ⟨_, rfl, (decide_eq_false (by omega))⟩ (fun w => RX.len_slice rfl (by rw [sl26]; rfl) rfl) ?_
            refine JA.take 16 (listed' := [true,true,true,true,true,true,true,true,true,true,true,true,true,true,true,true,true,false,false,false,false,false,false,false,false,false,false,false,false,false,false,false,false]) rfl (by kernel_rfl) (by kernel_rfl) (by kernel_rfl) rfl ⟨_, rfl, (decide_eq_false (by omega))⟩ (fun w => RX.gt rfl rfl) ?_
            refine JA.take 17 (listed' := [true,true,true,true,true,true,true,true,true,true,true,true,true,true,true,true,true,true,false,false,false,false,false,false,false,false,false,false,false,false,false,false,false]) rfl (by kernel_rfl) (by kernel_rfl) (by kernel_rfl) rfl trivial (fun w => RX.pick_f rfl (decide_eq_false (by omega))) ?_
            refine JA.take 18 (listed' := [true,true,true,true,true,true,true,true,true,true,true,true,true,true,true,true,true,true,true,false,false,false,false,false,false,false,false,false,false,false,false,false,false]) rfl (by kernel_rfl) (by kernel_rfl) (by kernel_rfl) rfl trivial (fun w => RX.movev (v := Value.bool _) rfl) ?_
            refine JA.take 19 (listed' := [true,true,true,true,true,true,true,true,true,true,true,true,true,true,true,true,true,true,true,true,false,false,false,false,false,false,false,false,false,false,false,false,false]) rfl (by kernel_rfl) (by kernel_rfl) (by kernel_rfl) rfl ⟨_, rfl, (decide_eq_false (by omega))⟩ (fun w => RX.movev (v := errV E e) rfl) ?_
            refine JA.take 20 (listed' := [true,true,true,true,true,true,true,true,true,true,true,true,true,true,true,true,true,true,true,true,true,false,false,false,false,false,false,false,false,false,false,false,false]) rfl (by kernel_rfl) (by kernel_rfl) (by kernel_rfl) rfl ⟨_, rfl, (decide_eq_false (by omega))⟩ (fun w => RX.ifnil_eql (v := errV E e) rfl rfl hie if40) ?_
            refine JA.take 21 (listed' := [true,true,true,true,true,true,true,true,true,true,true,true,true,true,true,true,true,true,true,true,true,true,false,false,false,false,false,false,false,false,false,false,false]) rfl (by kernel_rfl) (by kernel_rfl) (by kernel_rfl) rfl ⟨_, rfl, (decide_eq_false (by omega))⟩ (fun w => RX.movev (v := Value.bool _) rfl) ?_
            refine JA.takeno 22 (listed' := [true,true,true,true,true,true,true,true,true,true,true,true,true,true,true,true,true,true,true,true,true,true,true,false,false,false,false,false,false,false,false,false,false]) rfl (by kernel_rfl) (by kernel_rfl) (by kernel_rfl) rfl ⟨_, rfl, gno hz2⟩ ?_
            refine JA.takeno 23 (listed' := [true,true,true,true,true,true,true,true,true,true,true,true,true,true,true,true,true,true,true,true,true,true,true,true,false,false,false,false,false,false,false,false,false]) rfl (by kernel_rfl) (by kernel_rfl) (by kernel_rfl) rfl ⟨_, rfl, gno hz2⟩ ?_
            refine JA.takeno 24 (listed' := [true,true,true,true,true,true,true,true,true,true,true,true,true,true,true,true,true,true,true,true,true,true,true,true,true,false,false,false,false,false,false,false,false]) rfl (by kernel_rfl) (by kernel_rfl) (by kernel_rfl) rfl ⟨_, rfl, gno hz2⟩ ?_
            refine JA.takeno 25 (listed' := [true,true,true,true,true,true,true,true,true,true,true,true,true,true,true,true,true,true,true,true,true,true,true,true,true,true,false,false,false,false,false,false,false]) rfl (by kernel_rfl) (by kernel_rfl) (by kernel_rfl) rfl ⟨_, rfl, gno hz2⟩ ?_
            refine JA.takeno 26 (listed' := [true,true,true,true,true,true,true,true,true,true,true,true,true,true,true,true,true,true,true,true,true,true,true,true,true,true,true,false,false,false,false,false,false]) rfl (by kernel_rfl) (by kernel_rfl) (by kernel_rfl) rfl ⟨_, rfl, gno hz2⟩ ?_
            refine JA.takeno 27 (listed' := [true,true,true,true,true,true,true,true,true,true,true,true,true,true,true,true,true,true,true,true,true,true,true,true,true,true,true,true,false,false,false,false,false]) rfl (by kernel_rfl) (by kernel_rfl) (by kernel_rfl) rfl ⟨_, rfl, gno hz2⟩ ?_
            refine JA.takeno 28 (listed' := [true,true,true,true,true,true,true,true,true,true,true,true,true,true,true,true,true,true,true,true,true,true,true,true,true,true,true,true,true,false,false,false,false]) rfl (by kernel_rfl) (by kernel_rfl) (by kernel_rfl) rfl ⟨_, rfl, gno hz2⟩ ?_
            refine JA.takeno 29 (listed' := [true,true,true,true,true,true,true,true,true,true,true,true,true,true,true,true,true,true,true,true,true,true,true,true,true,true,true,true,true,true,false,false,false]) rfl (by kernel_rfl) (by kernel_rfl) (by kernel_rfl) rfl ⟨_, rfl, gno hz2⟩ ?_
            refine JA.takeno 30 (listed' := [true,true,true,true,true,true,true,true,true,true,true,true,true,true,true,true,true,true,true,true,true,true,true,true,true,true,true,true,true,true,true,false,false]) rfl (by kernel_rfl) (by kernel_rfl) (by kernel_rfl) rfl ⟨_, rfl, gno hz2⟩ ?_
            refine JA.take 31 (listed' := [true,true,true,true,true,true,true,true,true,true,true,true,true,true,true,true,true,true,true,true,true,true,true,true,true,true,true,true,true,true,true,true,false]) rfl (by kernel_rfl) (by kernel_rfl) (by kernel_rfl) rfl ⟨_, rfl, (decide_eq_false (by omega))⟩ (fun w => RX.pick_f rfl hz2) ?_
            refine JA.take 32 (listed' := [true,true,true,true,true,true,true,true,true,true,true,true,true,true,true,true,true,true,true,true,true,true,true,true,true,true,true,true,true,true,true,true,true]) rfl (by kernel_rfl) (by kernel_rfl) (by kernel_rfl) rfl trivial (fun w => RX.pick_f rfl (decide_eq_false (by omega))) ?_
            refine JA.done (by kernel_rfl) ?_
            refine J.cond_f rfl (by first | rfl | exact hz2 | (subst hyk; exact decide_eq_false (fun h => h rfl))) ?_
            refine J.skip ?_
            refine J.inBlock ?_
            refine J.region ?_
            refine JL.go trivial (RX.add rfl rfl (w_i64 rfl (by omega) (by omega))) ?_
            refine JL.go trivial (RX.movev (v := Value.int _ _) rfl) ?_
            refine JL.nil ?_
            first
            | exact IH (i + 1, at_ + k) _ _ (by simp only; omega) ⟨rfl, rfl, rfl, rfl, trivial⟩ ⟨rfl, trivial⟩ ⟨by simp only; omega, by simp only; omega, H.drop.drop.drop⟩
            | exact IH (i + 1, at_ + k) _ _ (by simp only; omega) ⟨rfl, rfl, rfl, rfl, trivial⟩ ⟨rfl, trivial⟩ ⟨by simp only; omega, by simp only; omega, H.drop.drop⟩
            | exact IH (i + 1, at_) _ _ (by simp only; omega) ⟨rfl, rfl, rfl, rfl, trivial⟩ ⟨rfl, trivial⟩ ⟨by simp only; omega, hat, H.drop.drop⟩
          · skip
            first | have hzp := of_decide_eq_false hz | skip
            have hz2 : isNil (errV E e) = true := by simpa using hz
            have he0 : e = 0 := of_decide_eq_true (hnn.symm.trans hz2)
            have hyk := hys he0
            have hyl : ys.length = k := by rw [hyk, List.length_take, List.length_drop]; omega
            have hslice : SlAt F (behind bp bc at_ 1) (bv ((bs.drop at_).take k)) := by
              have h := (SlAt.behind (cap := bc) (r := at_) (sz := 1) hbs (by rw [bv_len]; omega)).take (n := k)
              rw [bv_part] at h
              exact h
            refine JA.takeno 3 (listed' := [true,true,true,true,false,false,false,false,false,false,false,false,false,false,false,false,false,false,false,false,false,false,false,false,false,false,false,false,false,false,false,false,false]) rfl (by kernel_rfl) (by kernel_rfl) (by kernel_rfl) rfl ⟨_, rfl, gno hz⟩ ?_
            refine JA.takeno 4 (listed' := [true,true,true,true,true,false,false,false,false,false,false,false,false,false,false,false,false,false,false,false,false,false,false,false,false,false,false,false,false,false,false,false,false]) rfl (by kernel_rfl) (by kernel_rfl) (by kernel_rfl) rfl ⟨_, rfl, gno hz⟩ ?_
            refine JA.takeno 5 (listed' := [true,true,true,true,true,true,false,false,false,false,false,false,false,false,false,false,false,false,false,false,false,false,false,false,false,false,false,false,false,false,false,false,false]) rfl (by kernel_rfl) (by kernel_rfl) (by kernel_rfl) rfl ⟨_, rfl, gno hz⟩ ?_
            refine JA.take 6 (listed' := [true,true,true,true,true,true,true,false,false,false,false,false,false,false,false,false,false,false,false,false,false,false,false,false,false,false,false,false,false,false,false,false,false]) rfl (by kernel_rfl) (by kernel_rfl) (by kernel_rfl) rfl trivial (fun w => RX.pick_f rfl hz) ?_
            refine JA.take 7 (listed' := [true,true,true,true,true,true,true,true,false,false,false,false,false,false,false,false,false,false,false,false,false,false,false,false,false,false,false,false,false,false,false,false,false]) rfl (by kernel_rfl) (by kernel_rfl) (by kernel_rfl) rfl trivial (fun w => RX.movev (v := Value.bool _) rfl) ?_
            refine JA.take 8 (listed' := [true,true,true,true,true,true,true,true,true,false,false,false,false,false,false,false,false,false,false,false,false,false,false,false,false,false,false,false,false,false,false,false,false]) rfl (by kernel_rfl) (by kernel_rfl) (by kernel_rfl) rfl ⟨_, rfl, rfl⟩ (fun w => RX.movev (v := Value.int _ _) rfl) ?_
            refine JA.take 9 (listed' := [true,true,true,true,true,true,true,true,true,true,false,false,false,false,false,false,false,false,false,false,false,false,false,false,false,false,false,false,false,false,false,false,false]) rfl (by kernel_rfl) (by kernel_rfl) (by kernel_rfl) rfl ⟨_, rfl, rfl⟩ (fun w => RX.movev (v := Value.int _ _) rfl) ?_
            refine JA.take 10 (listed' := [true,true,true,true,true,true,true,true,true,true,true,false,false,false,false,false,false,false,false,false,false,false,false,false,false,false,false,false,false,false,false,false,false]) rfl (by kernel_rfl) (by kernel_rfl) (by kernel_rfl) rfl ⟨_, rfl, rfl⟩ (fun w => RX.lt rfl rfl) ?_
            refine JA.take 11 (listed' := [true,true,true,true,true,true,true,true,true,true,true,true,false,false,false,false,false,false,false,false,false,false,false,false,false,false,false,false,false,false,false,false,false]) rfl (by kernel_rfl) (by kernel_rfl) (by kernel_rfl) rfl trivial (fun w => RX.pick_f rfl rfl) ?_
            refine JA.take 12 (listed' := [true,true,true,true,true,true,true,true,true,true,true,true,true,false,false,false,false,false,false,false,false,false,false,false,false,false,false,false,false,false,false,false,false]) rfl (by kernel_rfl) (by kernel_rfl) (by kernel_rfl) rfl trivial (fun w => RX.movev (v := Value.bool _) rfl) ?_
            refine JA.take 13 (listed' := [true,true,true,true,true,true,true,true,true,true,true,true,true,true,false,false,false,false,false,false,false,false,false,false,false,false,false,false,false,false,false,false,false]) rfl (by kernel_rfl) (by kernel_rfl) (by kernel_rfl) rfl ⟨_, rfl, (decide_eq_false (by omega))⟩ (fun w => RX.movev (v := Value.int _ _) rfl) ?_
            refine JA.take 14 (listed' := [true,true,true,true,true,true,true,true,true,true,true,true,true,true,true,false,false,false,false,false,false,false,false,false,false,false,false,false,false,false,false,false,false]) rfl (by kernel_rfl) (by kernel_rfl) (by kernel_rfl) rfl ⟨_, rfl, (decide_eq_false (by omega))⟩ (fun w => RX.movev (v := Value.slice _ _ _) rfl) ?_
            refine JA.take 15 (listed' := [true,true,true,true,true,true,true,true,true,true,true,true,true,true,true,true,false,false,false,false,false,false,false,false,false,false,false,false,false,false,false,false,false]) rfl (by kernel_rfl) (by kernel_rfl) (by kernel_rfl) rfl ⟨_, rfl, (decide_eq_false (by omega))⟩ (fun w => RX.len_slice rfl (by rw [sl26]; rfl) rfl) ?_
            refine JA.take 16 (listed' := [true,true,true,true,true,true,true,true,true,true,true,true,true,true,true,true,true,false,false,false,false,false,false,false,false,false,false,false,false,false,false,false,false]) rfl (by kernel_rfl) (by kernel_rfl) (by kernel_rfl) rfl ⟨_, rfl, (decide_eq_false (by omega))⟩ (fun w => RX.gt rfl rfl) ?_
            refine JA.take 17 (listed' := [true,true,true,true,true,true,true,true,true,true,true,true,true,true,true,true,true,true,false,false,false,false,false,false,false,false,false,false,false,false,false,false,false]) rfl (by kernel_rfl) (by kernel_rfl) (by kernel_rfl) rfl trivial (fun w => RX.pick_f rfl (decide_eq_false (by omega))) ?_
            refine JA.take 18 (listed' := [true,true,true,true,true,true,true,true,true,true,true,true,true,true,true,true,true,true,true,false,false,false,false,false,false,false,false,false,false,false,false,false,false]) rfl (by kernel_rfl) (by kernel_rfl) (by kernel_rfl) rfl trivial (fun w => RX.movev (v := Value.bool _) rfl) ?_
            refine JA.take 19 (listed' := [true,true,true,true,true,true,true,true,true,true,true,true,true,true,true,true,true,true,true,true,false,false,false,false,false,false,false,false,false,false,false,false,false]) rfl (by kernel_rfl) (by kernel_rfl) (by kernel_rfl) rfl ⟨_, rfl, (decide_eq_false (by omega))⟩ (fun w => RX.movev (v := errV E e) rfl) ?_
            refine JA.take 20 (listed' := [true,true,true,true,true,true,true,true,true,true,true,true,true,true,true,true,true,true,true,true,true,false,false,false,false,false,false,false,false,false,false,false,false]) rfl (by kernel_rfl) (by kernel_rfl) (by kernel_rfl) rfl ⟨_, rfl, (decide_eq_false (by omega))⟩ (fun w => RX.ifnil_eql (v := errV E e) rfl rfl hie if40) ?_
            refine JA.take 21 (listed' := [true,true,true,true,true,true,true,true,true,true,true,true,true,true,true,true,true,true,true,true,true,true,false,false,false,false,false,false,false,false,false,false,false]) rfl (by kernel_rfl) (by kernel_rfl) (by kernel_rfl) rfl ⟨_, rfl, (decide_eq_false (by omega))⟩ (fun w => RX.movev (v := Value.bool _) rfl) ?_
            refine JA.take 22 (listed' := [true,true,true,true,true,true,true,true,true,true,true,true,true,true,true,true,true,true,true,true,true,true,true,false,false,false,false,false,false,false,false,false,false]) rfl (by kernel_rfl) (by kernel_rfl) (by kernel_rfl) rfl ⟨_, rfl, hz2⟩ (fun w => RX.movev (v := Value.pointer _) rfl) ?_
            refine JA.take 25 (listed' := [true,true,true,true,true,true,true,true,true,true,true,true,true,true,true,true,true,true,true,true,true,true,true,false,false,true,false,false,false,false,false,false,false]) rfl (by kernel_rfl) (by kernel_rfl) (by kernel_rfl) rfl ⟨_, rfl, hz2⟩ (fun w => RX.movev (v := Value.slice _ _ _) rfl) ?_
            refine JA.take 26 (listed' := [true,true,true,true,true,true,true,true,true,true,true,true,true,true,true,true,true,true,true,true,true,true,true,false,false,true,true,false,false,false,false,false,false]) rfl (by kernel_rfl) (by kernel_rfl) (by kernel_rfl) rfl ⟨_, rfl, hz2⟩ (fun w => RX.movev (v := Value.int _ _) rfl) ?_
            refine JA.take 27 (listed' := [true,true,true,true,true,true,true,true,true,true,true,true,true,true,true,true,true,true,true,true,true,true,true,false,false,true,true,true,false,false,false,false,false]) rfl (by kernel_rfl) (by kernel_rfl) (by kernel_rfl) rfl ⟨_, rfl, hz2⟩ (fun w => RX.movev (v := Value.int _ _) rfl) ?_
            refine JA.take 28 (listed' := [true,true,true,true,true,true,true,true,true,true,true,true,true,true,true,true,true,true,true,true,true,true,true,false,false,true,true,true,true,false,false,false,false]) rfl (by kernel_rfl) (by kernel_rfl) (by kernel_rfl) rfl ⟨_, rfl, hz2⟩ (fun w => RX.slice_lh2 rfl rfl rfl sl26 (fun a ha => (hsp a ha).imp id (fun h => by omega)) (by omega) (by omega) (by omega) (r := at_) (s := at_ + k) rfl rfl) ?_
            refine JA.all [23, 29] (by kernel_rfl) (by decide) ?_
            refine ⟨?_, ?_⟩
            · skip
              refine JO.does (listed' := [true,true,true,true,true,true,true,true,true,true,true,true,true,true,true,true,true,true,true,true,true,true,true,true,false,true,true,true,true,false,false,false,false]) rfl rfl ⟨_, rfl, hz2⟩ (EX.call rfl cl12 rfl ((out_w H ho (by omega)))) ?_
              rintro _ w ⟨q, qc, qs, rfl, hoq, H⟩
              refine JA.all [24, 29] (by kernel_rfl) (by decide) ?_
              refine ⟨?_, ?_⟩
              · skip
                refine JO.go (listed' := [true,true,true,true,true,true,true,true,true,true,true,true,true,true,true,true,true,true,true,true,true,true,true,true,true,true,true,true,true,false,false,false,false]) rfl rfl ⟨_, rfl, hz2⟩ (RX.b2s (l := ys) H rfl hoq.slAt sl26 ud5 ud9) ?_
                refine JA.all [29] (by kernel_rfl) (by decide) ?_
                rw [show at_ + k - at_ = ((bs.drop at_).take k).length by rw [List.length_take, List.length_drop]; omega]
                refine JO.go (listed' := [true,true,true,true,true,true,true,true,true,true,true,true,true,true,true,true,true,true,true,true,true,true,true,true,true,true,true,true,true,true,false,false,false]) rfl rfl ⟨_, rfl, hz2⟩ (RX.b2s (l := (bs.drop at_).take k) H rfl (by first | exact hslice.cons.cons.cons.cons.cons.cons | exact hslice.cons.cons.cons.cons.cons) sl26 ud5 ud9) ?_
                refine JA.take 30 (listed' := [true,true,true,true,true,true,true,true,true,true,true,true,true,true,true,true,true,true,true,true,true,true,true,true,true,true,true,true,true,true,true,false,false]) rfl (by kernel_rfl) (by kernel_rfl) (by kernel_rfl) rfl ⟨_, rfl, hz2⟩ (fun w => RX.str_neq rfl rfl) ?_
                refine JA.take 31 (listed' := [true,true,true,true,true,true,true,true,true,true,true,true,true,true,true,true,true,true,true,true,true,true,true,true,true,true,true,true,true,true,true,true,false]) rfl (by kernel_rfl) (by kernel_rfl) (by kernel_rfl) rfl ⟨_, rfl, (decide_eq_false (by omega))⟩ (fun w => RX.pick_t rfl hz2) ?_
                refine JA.take 32 (listed' := [true,true,true,true,true,true,true,true,true,true,true,true,true,true,true,true,true,true,true,true,true,true,true,true,true,true,true,true,true,true,true,true,true]) rfl (by kernel_rfl) (by kernel_rfl) (by kernel_rfl) rfl trivial (fun w => RX.pick_f rfl (decide_eq_false (by omega))) ?_
                refine JA.done (by kernel_rfl) ?_
                refine J.cond_f rfl (by first | rfl | exact hz2 | (subst hyk; exact decide_eq_false (fun h => h rfl))) ?_
                refine J.skip ?_
                refine J.inBlock ?_
                refine J.region ?_
                refine JL.go trivial (RX.add rfl rfl (w_i64 rfl (by omega) (by omega))) ?_
                refine JL.go trivial (RX.movev (v := Value.int _ _) rfl) ?_
                refine JL.nil ?_
                first
                | exact IH (i + 1, at_ + k) _ _ (by simp only; omega) ⟨rfl, rfl, rfl, rfl, trivial⟩ ⟨rfl, trivial⟩ ⟨by simp only; omega, by simp only; omega, H.drop.drop.drop⟩
                | exact IH (i + 1, at_ + k) _ _ (by simp only; omega) ⟨rfl, rfl, rfl, rfl, trivial⟩ ⟨rfl, trivial⟩ ⟨by simp only; omega, by simp only; omega, H.drop.drop⟩
                | exact IH (i + 1, at_) _ _ (by simp only; omega) ⟨rfl, rfl, rfl, rfl, trivial⟩ ⟨rfl, trivial⟩ ⟨by simp only; omega, hat, H.drop.drop⟩
              · skip
                rw [show at_ + k - at_ = ((bs.drop at_).take k).length by rw [List.length_take, List.length_drop]; omega]
                refine JO.go (listed' := [true,true,true,true,true,true,true,true,true,true,true,true,true,true,true,true,true,true,true,true,true,true,true,true,false,true,true,true,true,true,false,false,false]) rfl rfl ⟨_, rfl, hz2⟩ (RX.b2s (l := (bs.drop at_).take k) H rfl (by first | exact hslice.cons.cons.cons.cons.cons.cons | exact hslice.cons.cons.cons.cons.cons) sl26 ud5 ud9) ?_
                refine JA.all [24] (by kernel_rfl) (by decide) ?_
                refine JO.go (listed' := [true,true,true,true,true,true,true,true,true,true,true,true,true,true,true,true,true,true,true,true,true,true,true,true,true,true,true,true,true,true,false,false,false]) rfl rfl ⟨_, rfl, hz2⟩ (RX.b2s (l := ys) H rfl hoq.slAt sl26 ud5 ud9) ?_
                refine JA.take 30 (listed' := [true,true,true,true,true,true,true,true,true,true,true,true,true,true,true,true,true,true,true,true,true,true,true,true,true,true,true,true,true,true,true,false,false]) rfl (by kernel_rfl) (by kernel_rfl) (by kernel_rfl) rfl ⟨_, rfl, hz2⟩ (fun w => RX.str_neq rfl rfl) ?_
                refine JA.take 31 (listed' := [true,true,true,true,true,true,true,true,true,true,true,true,true,true,true,true,true,true,true,true,true,true,true,true,true,true,true,true,true,true,true,true,false]) rfl (by kernel_rfl) (by kernel_rfl) (by kernel_rfl) rfl ⟨_, rfl, (decide_eq_false (by omega))⟩ (fun w => RX.pick_t rfl hz2) ?_
                refine JA.take 32 (listed' := [true,true,true,true,true,true,true,true,true,true,true,true,true,true,true,true,true,true,true,true,true,true,true,true,true,true,true,true,true,true,true,true,true]) rfl (by kernel_rfl) (by kernel_rfl) (by kernel_rfl) rfl trivial (fun w => RX.pick_f rfl (decide_eq_false (by omega))) ?_
                refine JA.done (by kernel_rfl) ?_
                refine J.cond_f rfl (by first | rfl | exact hz2 | (subst hyk; exact decide_eq_false (fun h => h rfl))) ?_
                refine J.skip ?_
                refine J.inBlock ?_
                refine J.region ?_
                refine JL.go trivial (RX.add rfl rfl (w_i64 rfl (by omega) (by omega))) ?_
                refine JL.go trivial (RX.movev (v := Value.int _ _) rfl) ?_
                refine JL.nil ?_
                first
                | exact IH (i + 1, at_ + k) _ _ (by simp only; omega) ⟨rfl, rfl, rfl, rfl, trivial⟩ ⟨rfl, trivial⟩ ⟨by simp only; omega, by simp only; omega, H.drop.drop.drop⟩
                | exact IH (i + 1, at_ + k) _ _ (by simp only; omega) ⟨rfl, rfl, rfl, rfl, trivial⟩ ⟨rfl, trivial⟩ ⟨by simp only; omega, by simp only; omega, H.drop.drop⟩
                | exact IH (i + 1, at_) _ _ (by simp only; omega) ⟨rfl, rfl, rfl, rfl, trivial⟩ ⟨rfl, trivial⟩ ⟨by simp only; omega, hat, H.drop.drop⟩
            · skip
              rw [show at_ + k - at_ = ((bs.drop at_).take k).length by rw [List.length_take, List.length_drop]; omega]
              refine JO.go (listed' := [true,true,true,true,true,true,true,true,true,true,true,true,true,true,true,true,true,true,true,true,true,true,true,false,false,true,true,true,true,true,false,false,false]) rfl rfl ⟨_, rfl, hz2⟩ (RX.b2s (l := (bs.drop at_).take k) H rfl (by first | exact hslice.cons.cons.cons.cons.cons.cons | exact hslice.cons.cons.cons.cons.cons) sl26 ud5 ud9) ?_
              refine JA.all [23] (by kernel_rfl) (by decide) ?_
              refine JO.does (listed' := [true,true,true,true,true,true,true,true,true,true,true,true,true,true,true,true,true,true,true,true,true,true,true,true,false,true,true,true,true,true,false,false,false]) rfl rfl ⟨_, rfl, hz2⟩ (EX.call rfl cl12 rfl ((out_w H ho (by omega)))) ?_
              rintro _ w ⟨q, qc, qs, rfl, hoq, H⟩
              refine JA.all [24] (by kernel_rfl) (by decide) ?_
              refine JO.go (listed' := [true,true,true,true,true,true,true,true,true,true,true,true,true,true,true,true,true,true,true,true,true,true,true,true,true,true,true,true,true,true,false,false,false]) rfl rfl ⟨_, rfl, hz2⟩ (RX.b2s (l := ys) H rfl hoq.slAt sl26 ud5 ud9) ?_
              refine JA.take 30 (listed' := [true,true,true,true,true,true,true,true,true,true,true,true,true,true,true,true,true,true,true,true,true,true,true,true,true,true,true,true,true,true,true,false,false]) rfl (by kernel_rfl) (by kernel_rfl) (by kernel_rfl) rfl ⟨_, rfl, hz2⟩ (fun w => RX.str_neq rfl rfl) ?_
              refine JA.take 31 (listed' := [true,true,true,true,true,true,true,true,true,true,true,true,true,true,true,true,true,true,true,true,true,true,true,true,true,true,true,true,true,true,true,true,false]) rfl (by kernel_rfl) (by kernel_rfl) (by kernel_rfl) rfl ⟨_, rfl, (decide_eq_false (by omega))⟩ (fun w => RX.pick_t rfl hz2) ?_
              refine JA.take 32 (listed' := [true,true,true,true,true,true,true,true,true,true,true,true,true,true,true,true,true,true,true,true,true,true,true,true,true,true,true,true,true,true,true,true,true]) rfl (by kernel_rfl) (by kernel_rfl) (by kernel_rfl) rfl trivial (fun w => RX.pick_f rfl (decide_eq_false (by omega))) ?_
              refine JA.done (by kernel_rfl) ?_
              refine J.cond_f rfl (by first | rfl | exact hz2 | (subst hyk; exact decide_eq_false (fun h => h rfl))) ?_
              refine J.skip ?_
              refine J.inBlock ?_
              refine J.region ?_
              refine JL.go trivial (RX.add rfl rfl (w_i64 rfl (by omega) (by omega))) ?_
              refine JL.go trivial (RX.movev (v := Value.int _ _) rfl) ?_
              refine JL.nil ?_
              first
              | exact IH (i + 1, at_ + k) _ _ (by simp only; omega) ⟨rfl, rfl, rfl, rfl, trivial⟩ ⟨rfl, trivial⟩ ⟨by simp only; omega, by simp only; omega, H.drop.drop.drop⟩
              | exact IH (i + 1, at_ + k) _ _ (by simp only; omega) ⟨rfl, rfl, rfl, rfl, trivial⟩ ⟨rfl, trivial⟩ ⟨by simp only; omega, by simp only; omega, H.drop.drop⟩
              | exact IH (i + 1, at_) _ _ (by simp only; omega) ⟨rfl, rfl, rfl, rfl, trivial⟩ ⟨rfl, trivial⟩ ⟨by simp only; omega, hat, H.drop.drop⟩
        · skip
          refine J.seq ?_
          refine J.region ?_
          refine JL.go trivial (RX.eq rfl rfl) ?_
          refine JL.go trivial (RX.assignv (v := Value.bool _) rfl) ?_
          refine JL.nil ?_
          refine J.cond_d rfl (fun h3 => ?_) (fun h3 => ?_)
          · skip
            refine J.seq ?_
            refine J.region ?_
            refine JL.go trivial (RX.movev (v := Value.pointer _) rfl) ?_
            replace H := (H.pull 3 rfl).pull 3 rfl
            refine JL.does trivial (EX.call rfl cl30 rfl ((rComplex_c H hor hat (by omega) hE.cons.cons.cons))) ?_
            rintro _ w ⟨rfl, H⟩
            obtain ⟨he, hek, hkl, hys⟩ := one_form (d := (0, 0)) (f := fun z => cB (z)) (rCo_g (bs.drop at_)) (fun a k h => rCo_b h)
            rw [List.length_drop] at hkl
            replace hys : (rCo (bs.drop at_)).code = 0 → cB ((rCo (bs.drop at_)).val (0, 0)) = (bs.drop at_).take (rCo (bs.drop at_)).k := hys
            generalize hee : (rCo (bs.drop at_)).code = e at he hek hys ⊢
            generalize hkk : (rCo (bs.drop at_)).k = k at hek hkl hys H
            clear hee hkk
            refine JL.go trivial (RX.movev (v := Value.tuple _) rfl) ?_
            refine JL.go trivial (RX.extract rfl rfl) ?_
            refine JL.go trivial (RX.extract (v := errV E e) rfl rfl) ?_
            refine JL.go trivial (RX.assignv (v := Value.complex _ _ _) rfl) ?_
            refine JL.go trivial (RX.assignv (v := errV E e) rfl) ?_
            refine JL.nil ?_
            refine J.seq ?_
            refine J.region ?_
            refine JL.go trivial (RX.movev (v := errV E e) rfl) ?_
            refine JL.go trivial (RX.assignv (v := errV E e) rfl) ?_
            refine JL.nil ?_
            refine J.region ?_
            refine JL.go trivial (RX.movev (v := Value.pointer _) rfl) ?_
            refine JL.go trivial (RX.movev (v := Value.complex _ _ _) rfl) ?_
            replace H := (H.pull 3 rfl).pull 3 rfl
            refine JL.does trivial (EX.call rfl cl31 rfl ((Complex_c (xs := []) ⟨none, 0, [], OwnSl.nil, H⟩ (rCo_ok _) (by decide)))) ?_
            rintro _ w ⟨rfl, p, cp, s, ho, H⟩
            rw [List.nil_append] at ho H
            generalize cB ((rCo (bs.drop at_)).val (0, 0)) = ys at ho H hys
            refine JL.nil ?_
            refine J.inBlock ?_
            refine J.seq ?_
            refine J.region ?_
            refine JL.go trivial (RX.movev (v := Value.pointer _) rfl) ?_
            refine JL.does trivial (EX.call rfl cl19 rfl ((at_r (i := 2) H rfl))) ?_
            rintro _ w ⟨rfl, H⟩
            refine JL.go trivial (RX.assignv (v := Value.int _ _) rfl) ?_
            refine JL.nil ?_
            refine J.seq ?_
            obtain ⟨hie, hnn⟩ := er_ie hE he
            refine J.any hmix fun w hs => ?_
            replace H := H.same hs; clear hs
            refine JA.take 0 (listed' := [true,false,false,false,false,false,false,false,false,false,false,false,false,false,false,false,false,false,false,false,false,false,false,false,false,false,false,false,false,false,false,false,false]) rfl (by kernel_rfl) (by kernel_rfl) (by kernel_rfl) rfl trivial (fun w => RX.movev (v := errV E e) rfl) ?_
            refine JA.take 1 (listed' := [true,true,false,false,false,false,false,false,false,false,false,false,false,false,false,false,false,false,false,false,false,false,false,false,false,false,false,false,false,false,false,false,false]) rfl (by kernel_rfl) (by kernel_rfl) (by kernel_rfl) rfl trivial (fun w => RX.ifnil_neq (v := errV E e) rfl rfl hie if40) ?_
            refine JA.take 2 (listed' := [true,true,true,false,false,false,false,false,false,false,false,false,false,false,false,false,false,false,false,false,false,false,false,false,false,false,false,false,false,false,false,false,false]) rfl (by kernel_rfl) (by kernel_rfl) (by kernel_rfl) rfl trivial (fun w => RX.movev (v := Value.bool _) rfl) ?_
            refine JA.splitS 152 rfl (fun hz => ?_) (fun hz => ?_)
            · skip
              first | have hzp := of_decide_eq_true hz | skip
              have hz2 : isNil (errV E e) = false := by simpa using hz
              have he0 : ¬ e = 0 := by intro h; rw [hnn, decide_eq_true h] at hz2; cases hz2
              have hk0 := hek he0
              refine JA.take 3 (listed' := [true,true,true,true,false,false,false,false,false,false,false,false,false,false,false,false,false,false,false,false,false,false,false,false,false,false,false,false,false,false,false,false,false]) rfl (by kernel_rfl) (by kernel_rfl) (by kernel_rfl) rfl ⟨_, rfl, hz⟩ (fun w => RX.movev (v := Value.int _ _) rfl) ?_
              refine JA.take 4 (listed' := [true,true,true,true,true,false,false,false,false,false,false,false,false,false,false,false,false,false,false,false,false,false,false,false,false,false,false,false,false,false,false,false,false]) rfl (by kernel_rfl) (by kernel_rfl) (by kernel_rfl) rfl ⟨_, rfl, hz⟩ (fun w => RX.movev (v := Value.int _ _) rfl) ?_
              refine JA.take 5 (listed' := [true,true,true,true,true,true,false,false,false,false,false,false,false,false,false,false,false,false,false,false,false,false,false,false,false,false,false,false,false,false,false,false,false]) rfl (by kernel_rfl) (by kernel_rfl) (by kernel_rfl) rfl ⟨_, rfl, hz⟩ (fun w => RX.ne rfl rfl) ?_
              refine JA.take 6 (listed' := [true,true,true,true,true,true,true,false,false,false,false,false,false,false,false,false,false,false,false,false,false,false,false,false,false,false,false,false,false,false,false,false,false]) rfl (by kernel_rfl) (by kernel_rfl) (by kernel_rfl) rfl trivial (fun w => RX.pick_t rfl hz) ?_
              refine JA.take 7 (listed' := [true,true,true,true,true,true,true,true,false,false,false,false,false,false,false,false,false,false,false,false,false,false,false,false,false,false,false,false,false,false,false,false,false]) rfl (by kernel_rfl) (by kernel_rfl) (by kernel_rfl) rfl trivial (fun w => RX.movev (v := Value.bool _) rfl) ?_
              refine JA.take 8 (listed' := [true,true,true,true,true,true,true,true,true,false,false,false,false,false,false,false,false,false,false,false,false,false,false,false,false,false,false,false,false,false,false,false,false]) rfl (by kernel_rfl) (by kernel_rfl) (by kernel_rfl) rfl ⟨_, rfl, (by first | rfl | exact decide_eq_false (by omega))⟩ (fun w => RX.movev (v := Value.int _ _) rfl) ?_
              refine JA.take 9 (listed' := [true,true,true,true,true,true,true,true,true,true,false,false,false,false,false,false,false,false,false,false,false,false,false,false,false,false,false,false,false,false,false,false,false]) rfl (by kernel_rfl) (by kernel_rfl) (by kernel_rfl) rfl ⟨_, rfl, (by first | rfl | exact decide_eq_false (by omega))⟩ (fun w => RX.movev (v := Value.int _ _) rfl) ?_
              refine JA.take 10 (listed' := [true,true,true,true,true,true,true,true,true,true,true,false,false,false,false,false,false,false,false,false,false,false,false,false,false,false,false,false,false,false,false,false,false]) rfl (by kernel_rfl) (by kernel_rfl) (by kernel_rfl) rfl ⟨_, rfl, (by first | rfl | exact decide_eq_false (by omega))⟩ (fun w => RX.lt rfl rfl) ?_
              refine JA.take 11 (listed' := [true,true,true,true,true,true,true,true,true,true,true,true,false,false,false,false,false,false,false,false,false,false,false,false,false,false,false,false,false,false,false,false,false]) rfl (by kernel_rfl) (by kernel_rfl) (by kernel_rfl) rfl trivial (fun w => RX.pick_f rfl (by first | rfl | exact decide_eq_false (by omega))) ?_
              refine JA.take 12 (listed' := [true,true,true,true,true,true,true,true,true,true,true,true,true,false,false,false,false,false,false,false,false,false,false,false,false,false,false,false,false,false,false,false,false]) rfl (by kernel_rfl) (by kernel_rfl) (by kernel_rfl) rfl trivial (fun w => RX.movev (v := Value.bool _) rfl) ?_
              refine JA.take 13 (listed' := [true,true,true,true,true,true,true,true,true,true,true,true,true,true,false,false,false,false,false,false,false,false,false,false,false,false,false,false,false,false,false,false,false]) rfl (by kernel_rfl) (by kernel_rfl) (by kernel_rfl) rfl ⟨_, rfl, (decide_eq_false (by omega))⟩ (fun w => RX.movev (v := Value.int _ _) rfl) ?_
              refine JA.take 14 (listed' := [true,true,true,true,true,true,true,true,true,true,true,true,true,true,true,false,false,false,false,false,false,false,false,false,false,false,false,false,false,false,false,false,false]) rfl (by kernel_rfl) (by kernel_rfl) (by kernel_rfl) rfl ⟨_, rfl, (decide_eq_false (by omega))⟩ (fun w => RX.movev (v := Value.slice _ _ _) rfl) ?_
              refine JA.take 15 (listed' := [true,true,true,true,true,true,true,true,true,true,true,true,true,true,true,true,false,false,false,false,false,false,false,false,false,false,false,false,false,false,false,false,false]) rfl (by kernel_rfl) (by kernel_rfl) (by kernel_rfl) rfl ⟨_, rfl, (decide_eq_false (by omega))⟩ (fun w => RX.len_slice rfl (by rw [sl26]; rfl) rfl) ?_
              refine JA.take 16 (listed' := [true,true,true,true,true,true,true,true,true,true,true,true,true,true,true,true,true,false,false,false,false,false,false,false,false,false,false,false,false,false,false,false,false]) rfl (by kernel_rfl) (by kernel_rfl) (by kernel_rfl) rfl ⟨_, rfl, (decide_eq_false (by omega))⟩ (fun w => RX.gt rfl rfl) ?_
              refine JA.take 17 (listed' := [true,true,true,true,true,true,true,true,true,true,true,true,true,true,true,true,true,true,false,false,false,false,false,false,false,false,false,false,false,false,false,false,false]) rfl (by kernel_rfl) (by kernel_rfl) (by kernel_rfl) rfl trivial (fun w => RX.pick_f rfl (decide_eq_false (by omega))) ?_
              refine JA.take 18 (listed' := [true,true,true,true,true,true,true,true,true,true,true,true,true,true,true,true,true,true,true,false,false,false,false,false,false,false,false,false,false,false,false,false,false]) rfl (by kernel_rfl) (by kernel_rfl) (by kernel_rfl) rfl trivial (fun w => RX.movev (v := Value.bool _) rfl) ?_
              refine JA.take 19 (listed' := [true,true,true,true,true,true,true,true,true,true,true,true,true,true,true,true,true,true,true,true,false,false,false,false,false,false,false,false,false,false,false,false,false]) rfl (by kernel_rfl) (by kernel_rfl) (by kernel_rfl) rfl ⟨_, rfl, (decide_eq_false (by omega))⟩ (fun w => RX.movev (v := errV E e) rfl) ?_
              refine JA.take 20 (listed' := [true,true,true,true,true,true,true,true,true,true,true,true,true,true,true,true,true,true,true,true,true,false,false,false,false,false,false,false,false,false,false,false,false]) rfl (by kernel_rfl) (by kernel_rfl) (by kernel_rfl) rfl ⟨_, rfl, (decide_eq_false (by omega))⟩ (fun w => RX.ifnil_eql (v := errV E e) rfl rfl hie if40) ?_
              refine JA.take 21 (listed' := [true,true,true,true,true,true,true,true,true,true,true,true,true,true,true,true,true,true,true,true,true,true,false,false,false,false,false,false,false,false,false,false,false]) rfl (by kernel_rfl) (by kernel_rfl) (by kernel_rfl) rfl ⟨_, rfl, (decide_eq_false (by omega))⟩ (fun w => RX.movev (v := Value.bool _) rfl) ?_
              refine JA.takeno 22 (listed' := [true,true,true,true,true,true,true,true,true,true,true,true,true,true,true,true,true,true,true,true,true,true,true,false,false,false,false,false,false,false,false,false,false]) rfl (by kernel_rfl) (by kernel_rfl) (by kernel_rfl) rfl ⟨_, rfl, gno hz2⟩ ?_
              refine JA.takeno 23 (listed' := [true,true,true,true,true,true,true,true,true,true,true,true,true,true,true,true,true,true,true,true,true,true,true,true,false,false,false,false,false,false,false,false,false]) rfl (by kernel_rfl) (by kernel_rfl) (by kernel_rfl) rfl ⟨_, rfl, gno hz2⟩ ?_
              refine JA.takeno 24 (listed' := [true,true,true,true,true,true,true,true,true,true,true,true,true,true,true,true,true,true,true,true,true,true,true,true,true,false,false,false,false,false,false,false,false]) rfl (by kernel_rfl) (by kernel_rfl) (by kernel_rfl) rfl ⟨_, rfl, gno hz2⟩ ?_
              refine JA.takeno 25 (listed' := [true,true,true,true,true,true,true,true,true,true,true,true,true,true,true,true,true,true,true,true,true,true,true,true,true,true,false,false,false,false,false,false,false]) rfl (by kernel_rfl) (by kernel_rfl) (by kernel_rfl) rfl ⟨_, rfl, gno hz2⟩ ?_
              refine JA.takeno 26 (listed' := [true,true,true,true,true,true,true,true,true,true,true,true,true,true,true,true,true,true,true,true,true,true,true,true,true,true,true,false,false,false,false,false,false]) rfl (by kernel_rfl) (by kernel_rfl) (by kernel_rfl) rfl ⟨_, rfl, gno hz2⟩ ?_
              refine JA.takeno 27 (listed' := [true,true,true,true,true,true,true,true,true,true,true,true,true,true,true,true,true,true,true,true,true,true,true,true,true,true,true,true,false,false,false,false,false]) rfl (by kernel_rfl) (by kernel_rfl) (by kernel_rfl) rfl ⟨_, rfl, gno hz2⟩ ?_
              refine JA.takeno 28 (listed' := [true,true,true,true,true,true,true,true,true,true,true,true,true,true,true,true,true,true,true,true,true,true,true,true,true,true,true,true,true,false,false,false,false]) rfl (by kernel_rfl) (by kernel_rfl) (by kernel_rfl) rfl ⟨_, rfl, gno hz2⟩ ?_
              refine JA.takeno 29 (listed' := [true,true,true,true,true,true,true,true,true,true,true,true,true,true,true,true,true,true,true,true,true,true,true,true,true,true,true,true,true,true,false,false,false]) rfl (by kernel_rfl) (by kernel_rfl) (by kernel_rfl) rfl ⟨_, rfl, gno hz2⟩ ?_
              refine JA.takeno 30 (listed' := [true,true,true,true,true,true,true,true,true,true,true,true,true,true,true,true,true,true,true,true,true,true,true,true,true,true,true,true,true,true,true,false,false]) rfl (by kernel_rfl) (by kernel_rfl) (by kernel_rfl) rfl ⟨_, rfl, gno hz2⟩ ?_
              refine JA.take 31 (listed' := [true,true,true,true,true,true,true,true,true,true,true,true,true,true,true,true,true,true,true,true,true,true,true,true,true,true,true,true,true,true,true,true,false]) rfl (by kernel_rfl) (by kernel_rfl) (by kernel_rfl) rfl ⟨_, rfl, (decide_eq_false (by omega))⟩ (fun w => RX.pick_f rfl hz2) ?_
              refine JA.take 32 (listed' := [true,true,true,true,true,true,true,true,true,true,true,true,true,true,true,true,true,true,true,true,true,true,true,true,true,true,true,true,true,true,true,true,true]) rfl (by kernel_rfl) (by kernel_rfl) (by kernel_rfl) rfl trivial (fun w => RX.pick_f rfl (decide_eq_false (by omega))) ?_
              refine JA.done (by kernel_rfl) ?_
              refine J.cond_f rfl (by first | rfl | exact hz2 | (subst hyk; exact decide_eq_false (fun h => h rfl))) ?_
              refine J.skip ?_
              refine J.inBlock ?_
              refine J.region ?_
              refine JL.go trivial (RX.add rfl rfl (w_i64 rfl (by omega) (by omega))) ?_
              refine JL.go trivial (RX.movev (v := Value.int _ _) rfl) ?_
              refine JL.nil ?_
              first
              | exact IH (i + 1, at_ + k) _ _ (by simp only; omega) ⟨rfl, rfl, rfl, rfl, trivial⟩ ⟨rfl, trivial⟩ ⟨by simp only; omega, by simp only; omega, H.drop.drop.drop⟩
              | exact IH (i + 1, at_ + k) _ _ (by simp only; omega) ⟨rfl, rfl, rfl, rfl, trivial⟩ ⟨rfl, trivial⟩ ⟨by simp only; omega, by simp only; omega, H.drop.drop⟩
              | exact IH (i + 1, at_) _ _ (by simp only; omega) ⟨rfl, rfl, rfl, rfl, trivial⟩ ⟨rfl, trivial⟩ ⟨by simp only; omega, hat, H.drop.drop⟩
            · skip
              first | have hzp := of_decide_eq_false hz | skip
              have hz2 : isNil (errV E e) = true := by simpa using hz
              have he0 : e = 0 := of_decide_eq_true (hnn.symm.trans hz2)
              have hyk := hys he0
              have hyl : ys.length = k := by rw [hyk, List.length_take, List.length_drop]; omega
              have hslice : SlAt F (behind bp bc at_ 1) (bv ((bs.drop at_).take k)) := by
                have h := (SlAt.behind (cap := bc) (r := at_) (sz := 1) hbs (by rw [bv_len]; omega)).take (n := k)
                rw [bv_part] at h
                exact h
              refine JA.takeno 3 (listed' := [true,true,true,true,false,false,false,false,false,false,false,false,false,false,false,false,false,false,false,false,false,false,false,false,false,false,false,false,false,false,false,false,false]) rfl (by kernel_rfl) (by kernel_rfl) (by kernel_rfl) rfl ⟨_, rfl, gno hz⟩ ?_
              refine JA.takeno 4 (listed' := [true,true,true,true,true,false,false,false,false,false,false,false,false,false,false,false,false,false,false,false,false,false,false,false,false,false,false,false,false,false,false,false,false]) rfl (by kernel_rfl) (by kernel_rfl) (by kernel_rfl) rfl ⟨_, rfl, gno hz⟩ ?_
              refine JA.takeno 5 (listed' := [true,true,true,true,true,true,false,false,false,false,false,false,false,false,false,false,false,false,false,false,false,false,false,false,false,false,false,false,false,false,false,false,false]) rfl (by kernel_rfl) (by kernel_rfl) (by kernel_rfl) rfl ⟨_, rfl, gno hz⟩ ?_
              refine JA.take 6 (listed' := [true,true,true,true,true,true,true,false,false,false,false,false,false,false,false,false,false,false,false,false,false,false,false,false,false,false,false,false,false,false,false,false,false]) rfl (by kernel_rfl) (by kernel_rfl) (by kernel_rfl) rfl trivial (fun w => RX.pick_f rfl hz) ?_
              refine JA.take 7 (listed' := [true,true,true,true,true,true,true,true,false,false,false,false,false,false,false,false,false,false,false,false,false,false,false,false,false,false,false,false,false,false,false,false,false]) rfl (by kernel_rfl) (by kernel_rfl) (by kernel_rfl) rfl trivial (fun w => RX.movev (v := Value.bool _) rfl) ?_
              refine JA.take 8 (listed' := [true,true,true,true,true,true,true,true,true,false,false,false,false,false,false,false,false,false,false,false,false,false,false,false,false,false,false,false,false,false,false,false,false]) rfl (by kernel_rfl) (by kernel_rfl) (by kernel_rfl) rfl ⟨_, rfl, rfl⟩ (fun w => RX.movev (v := Value.int _ _) rfl) ?_
              refine JA.take 9 (listed' := [true,true,true,true,true,true,true,true,true,true,false,false,false,false,false,false,false,false,false,false,false,false,false,false,false,false,false,false,false,false,false,false,false]) rfl (by kernel_rfl) (by kernel_rfl) (by kernel_rfl) rfl ⟨_, rfl, rfl⟩ (fun w => RX.movev (v := Value.int _ _) rfl) ?_
              refine JA.take 10 (listed' := [true,true,true,true,true,true,true,true,true,true,true,false,false,false,false,false,false,false,false,false,false,false,false,false,false,false,false,false,false,false,false,false,false]) rfl (by kernel_rfl) (by kernel_rfl) (by kernel_rfl) rfl ⟨_, rfl, rfl⟩ (fun w => RX.lt rfl rfl) ?_
              refine JA.take 11 (listed' := [true,true,true,true,true,true,true,true,true,true,true,true,false,false,false,false,false,false,false,false,false,false,false,false,false,false,false,false,false,false,false,false,false]) rfl (by kernel_rfl) (by kernel_rfl) (by kernel_rfl) rfl trivial (fun w => RX.pick_f rfl rfl) ?_
              refine JA.take 12 (listed' := [true,true,true,true,true,true,true,true,true,true,true,true,true,false,false,false,false,false,false,false,false,false,false,false,false,false,false,false,false,false,false,false,false]) rfl (by kernel_rfl) (by kernel_rfl) (by kernel_rfl) rfl trivial (fun w => RX.movev (v := Value.bool _) rfl) ?_
              refine JA.take 13 (listed' := [true,true,true,true,true,true,true,true,true,true,true,true,true,true,false,false,false,false,false,false,false,false,false,false,false,false,false,false,false,false,false,false,false]) rfl (by kernel_rfl) (by kernel_rfl) (by kernel_rfl) rfl ⟨_, rfl, (decide_eq_false (by omega))⟩ (fun w => RX.movev (v := Value.int _ _) rfl) ?_
              refine JA.take 14 (listed' := [true,true,true,true,true,true,true,true,true,true,true,true,true,true,true,false,false,false,false,false,false,false,false,false,false,false,false,false,false,false,false,false,false]) rfl (by kernel_rfl) (by kernel_rfl) (by kernel_rfl) rfl ⟨_, rfl, (decide_eq_false (by omega))⟩ (fun w => RX.movev (v := Value.slice _ _ _) rfl) ?_
              refine JA.take 15 (listed' := [true,true,true,true,true,true,true,true,true,true,true,true,true,true,true,true,false,false,false,false,false,false,false,false,false,false,false,false,false,false,false,false,false]) rfl (by kernel_rfl) (by kernel_rfl) (by kernel_rfl) rfl ⟨_, rfl, (decide_eq_false (by omega))⟩ (fun w => RX.len_slice rfl (by rw [sl26]; rfl) rfl) ?_
              refine JA.take 16 (listed' := [true,true,true,true,true,true,true,true,true,true,true,true,true,true,true,true,true,false,false,false,false,false,false,false,false,false,false,false,false,false,false,false,false]) rfl (by kernel_rfl) (by kernel_rfl) (by kernel_rfl) rfl ⟨_, rfl, (decide_eq_false (by omega))⟩ (fun w => RX.gt rfl rfl) ?_
              refine JA.take 17 (listed' := [true,true,true,true,true,true,true,true,true,true,true,true,true,true,true,true,true,true,false,false,false,false,false,false,false,false,false,false,false,false,false,false,false]) rfl (by kernel_rfl) (by kernel_rfl) (by kernel_rfl) rfl trivial (fun w => RX.pick_f rfl (decide_eq_false (by omega))) ?_
              refine JA.take 18 (listed' := [true,true,true,true,true,true,true,true,true,true,true,true,true,true,true,true,true,true,true,false,false,false,false,false,false,false,false,false,false,false,false,false,false]) rfl (by kernel_rfl) (by kernel_rfl) (by kernel_rfl) rfl trivial (fun w => RX.movev (v := Value.bool _) rfl) ?_
              refine JA.take 19 (listed' := [true,true,true,true,true,true,true,true,true,true,true,true,true,true,true,true,true,true,true,true,false,false,false,false,false,false,false,false,false,false,false,false,false]) rfl (by kernel_rfl) (by kernel_rfl) (by kernel_rfl) rfl ⟨_, rfl, (decide_eq_false (by omega))⟩ (fun w => RX.movev (v := errV E e) rfl) ?_
              refine JA.take 20 (listed' := [true,true,true,true,true,true,true,true,true,true,true,true,true,true,true,true,true,true,true,true,true,false,false,false,false,false,false,false,false,false,false,false,false]) rfl (by kernel_rfl) (by kernel_rfl) (by kernel_rfl) rfl ⟨_, rfl, (decide_eq_false (by omega))⟩ (fun w => RX.ifnil_eql (v := errV E e) rfl rfl hie if40) ?_
              refine JA.take 21 (listed' := [true,true,true,true,true,true,true,true,true,true,true,true,true,true,true,true,true,true,true,true,true,true,false,false,false,false,false,false,false,false,false,false,false]) rfl (by kernel_rfl) (by kernel_rfl) (by kernel_rfl) rfl ⟨_, rfl, (decide_eq_false (by omega))⟩ (fun w => RX.movev (v := Value.bool _) rfl) ?_
              refine JA.take 22 (listed' := [true,true,true,true,true,true,true,true,true,true,true,true,true,true,true,true,true,true,true,true,true,true,true,false,false,false,false,false,false,false,false,false,false]) rfl (by kernel_rfl) (by kernel_rfl) (by kernel_rfl) rfl ⟨_, rfl, hz2⟩ (fun w => RX.movev (v := Value.pointer _) rfl) ?_
              refine JA.take 25 (listed' := [true,true,true,true,true,true,true,true,true,true,true,true,true,true,true,true,true,true,true,true,true,true,true,false,false,true,false,false,false,false,false,false,false]) rfl (by kernel_rfl) (by kernel_rfl) (by kernel_rfl) rfl ⟨_, rfl, hz2⟩ (fun w => RX.movev (v := Value.slice _ _ _) rfl) ?_
              refine JA.take 26 (listed' := [true,true,true,true,true,true,true,true,true,true,true,true,true,true,true,true,true,true,true,true,true,true,true,false,false,true,true,false,false,false,false,false,false]) rfl (by kernel_rfl) (by kernel_rfl) (by kernel_rfl) rfl ⟨_, rfl, hz2⟩ (fun w => RX.movev (v := Value.int _ _) rfl) ?_
              refine JA.take 27 (listed' := [true,true,true,true,true,true,true,true,true,true,true,true,true,true,true,true,true,true,true,true,true,true,true,false,false,true,true,true,false,false,false,false,false]) rfl (by kernel_rfl) (by kernel_rfl) (by kernel_rfl) rfl ⟨_, rfl, hz2⟩ (fun w => RX.movev (v := Value.int _ _) rfl) ?_
              refine JA.take 28 (listed' := [true,true,true,true,true,true,true,true,true,true,true,true,true,true,true,true,true,true,true,true,true,true,true,false,false,true,true,true,true,false,false,false,false]) rfl (by kernel_rfl) (by kernel_rfl) (by kernel_rfl) rfl ⟨_, rfl, hz2⟩ (fun w => RX.slice_lh2 rfl rfl rfl sl26 (fun a ha => (hsp a ha).imp id (fun h => by omega)) (by omega) (by omega) (by omega) (r := at_) (s := at_ + k) rfl rfl) ?_
              refine JA.all [23, 29] (by kernel_rfl) (by decide) ?_
              refine ⟨?_, ?_⟩
              · skip
                refine JO.does (listed' := [true,true,true,true,true,true,true,true,true,true,true,true,true,true,true,true,true,true,true,true,true,true,true,true,false,true,true,true,true,false,false,false,false]) rfl rfl ⟨_, rfl, hz2⟩ (EX.call rfl cl12 rfl ((out_w H ho (by omega)))) ?_
                rintro _ w ⟨q, qc, qs, rfl, hoq, H⟩
                refine JA.all [24, 29] (by kernel_rfl) (by decide) ?_
                refine ⟨?_, ?_⟩
                · skip
                  refine JO.go (listed' := [true,true,true,true,true,true,true,true,true,true,true,true,true,true,true,true,true,true,true,true,true,true,true,true,true,true,true,true,true,false,false,false,false]) rfl rfl ⟨_, rfl, hz2⟩ (RX.b2s (l := ys) H rfl hoq.slAt sl26 ud5 ud9) ?_
                  refine JA.all [29] (by kernel_rfl) (by decide) ?_
                  rw [show at_ + k - at_ = ((bs.drop at_).take k).length by rw [List.length_take, List.length_drop]; omega]
                  refine JO.go (listed' := [true,true,true,true,true,true,true,true,true,true,true,true,true,true,true,true,true,true,true,true,true,true,true,true,true,true,true,true,true,true,false,false,false]) rfl rfl ⟨_, rfl, hz2⟩ (RX.b2s (l := (bs.drop at_).take k) H rfl (by first | exact hslice.cons.cons.cons.cons.cons.cons | exact hslice.cons.cons.cons.cons.cons) sl26 ud5 ud9) ?_
                  refine JA.take 30 (listed' := [true,true,true,true,true,true,true,true,true,true,true,true,true,true,true,true,true,true,true,true,true,true,true,true,true,true,true,true,true,true,true,false,false]) rfl (by kernel_rfl) (by kernel_rfl) (by kernel_rfl) rfl ⟨_, rfl, hz2⟩ (fun w => RX.str_neq rfl rfl) ?_
                  refine JA.take 31 (listed' := [true,true,true,true,true,true,true,true,true,true,true,true,true,true,true,true,true,true,true,true,true,true,true,true,true,true,true,true,true,true,true,true,false]) rfl (by kernel_rfl) (by kernel_rfl) (by kernel_rfl) rfl ⟨_, rfl, (decide_eq_false (by omega))⟩ (fun w => RX.pick_t rfl hz2) ?_
                  refine JA.take 32 (listed' := [true,true,true,true,true,true,true,true,true,true,true,true,true,true,true,true,true,true,true,true,true,true,true,true,true,true,true,true,true,true,true,true,true]) rfl (by kernel_rfl) (by kernel_rfl) (by kernel_rfl) rfl trivial (fun w => RX.pick_f rfl (decide_eq_false (by omega))) ?_
                  refine JA.done (by kernel_rfl) ?_
                  refine J.cond_f rfl (by first | rfl | exact hz2 | (subst hyk; exact decide_eq_false (fun h => h rfl))) ?_
                  refine J.skip ?_
                  refine J.inBlock ?_
                  refine J.region ?_
                  refine JL.go trivial (RX.add rfl rfl (w_i64 rfl (by omega) (by omega))) ?_
                  refine JL.go trivial (RX.movev (v := Value.int _ _) rfl) ?_
                  refine JL.nil ?_
                  first
                  | exact IH (i + 1, at_ + k) _ _ (by simp only; omega) ⟨rfl, rfl, rfl, rfl, trivial⟩ ⟨rfl, trivial⟩ ⟨by simp only; omega, by simp only; omega, H.drop.drop.drop⟩
                  | exact IH (i + 1, at_ + k) _ _ (by simp only; omega) ⟨rfl, rfl, rfl, rfl, trivial⟩ ⟨rfl, trivial⟩ ⟨by simp only; omega, by simp only; omega, H.drop.drop⟩
                  | exact IH (i + 1, at_) _ _ (by simp only; omega) ⟨rfl, rfl, rfl, rfl, trivial⟩ ⟨rfl, trivial⟩ ⟨by simp only; omega, hat, H.drop.drop⟩
                · skip
                  rw [show at_ + k - at_ = ((bs.drop at_).take k).length by rw [List.length_take, List.length_drop]; omega]
                  refine JO.go (listed' := [true,true,true,true,true,true,true,true,true,true,true,true,true,true,true,true,true,true,true,true,true,true,true,true,false,true,true,true,true,true,false,false,false]) rfl rfl ⟨_, rfl, hz2⟩ (RX.b2s (l := (bs.drop at_).take k) H rfl (by first | exact hslice.cons.cons.cons.cons.cons.cons | exact hslice.cons.cons.cons.cons.cons) sl26 ud5 ud9) ?_
                  refine JA.all [24] (by kernel_rfl) (by decide) ?_
                  refine JO.go (listed' := [true,true,true,true,true,true,true,true,true,true,true,true,true,true,true,true,true,true,true,true,true,true,true,true,true,true,true,true,true,true,false,false,false]) rfl rfl ⟨_, rfl, hz2⟩ (RX.b2s (l := ys) H rfl hoq.slAt sl26 ud5 ud9) ?_
                  refine JA.take 30 (listed' := [true,true,true,true,true,true,true,true,true,true,true,true,true,true,true,true,true,true,true,true,true,true,true,true,true,true,true,true,true,true,true,false,false]) rfl (by kernel_rfl) (by kernel_rfl) (by kernel_rfl) rfl ⟨_, rfl, hz2⟩ (fun w => RX.str_neq rfl rfl) ?_
                  refine JA.take 31 (listed' := [true,true,true,true,true,true,true,true,true,true,true,true,true,true,true,true,true,true,true,true,true,true,true,true,true,true,true,true,true,true,true,true,false]) rfl (by kernel_rfl) (by kernel_rfl) (by kernel_rfl) rfl ⟨_, rfl, (decide_eq_false (by omega))⟩ (fun w => RX.pick_t rfl hz2) ?_
                  refine JA.take 32 (listed' := [true,true,true,true,true,true,true,true,true,true,true,true,true,true,true,true,true,true,true,true,true,true,true,true,true,true,true,true,true,true,true,true,true]) rfl (by kernel_rfl) (by kernel_rfl) (by kernel_rfl) rfl trivial (fun w => RX.pick_f rfl (decide_eq_false (by omega))) ?_
                  refine JA.done (by kernel_rfl) ?_
                  refine J.cond_f rfl (by first | rfl | exact hz2 | (subst hyk; exact decide_eq_false (fun h => h rfl))) ?_
                  refine J.skip ?_
                  refine J.inBlock ?_
                  refine J.region ?_
                  refine JL.go trivial (RX.add rfl rfl (w_i64 rfl (by omega) (by omega))) ?_
                  refine JL.go trivial (RX.movev (v := Value.int _ _) rfl) ?_
                  refine JL.nil ?_
                  first
                  | exact IH (i + 1, at_ + k) _ _ (by simp only; omega) ⟨rfl, rfl, rfl, rfl, trivial⟩ ⟨rfl, trivial⟩ ⟨by simp only; omega, by simp only; omega, H.drop.drop.drop⟩
                  | exact IH (i + 1, at_ + k) _ _ (by simp only; omega) ⟨rfl, rfl, rfl, rfl, trivial⟩ ⟨rfl, trivial⟩ ⟨by simp only; omega, by simp only; omega, H.drop.drop⟩
                  | exact IH (i + 1, at_) _ _ (by simp only; omega) ⟨rfl, rfl, rfl, rfl, trivial⟩ ⟨rfl, trivial⟩ ⟨by simp only; omega, hat, H.drop.drop⟩
              · skip
                rw [show at_ + k - at_ = ((bs.drop at_).take k).length by rw [List.length_take, List.length_drop]; omega]
                refine JO.go (listed' := [true,true,true,true,true,true,true,true,true,true,true,true,true,true,true,true,true,true,true,true,true,true,true,false,false,true,true,true,true,true,false,false,false]) rfl rfl ⟨_, rfl, hz2⟩ (RX.b2s (l := (bs.drop at_).take k) H rfl (by first | exact hslice.cons.cons.cons.cons.cons.cons | exact hslice.cons.cons.cons.cons.cons) sl26 ud5 ud9) ?_
                refine JA.all [23] (by kernel_rfl) (by decide) ?_
                refine JO.does (listed' := [true,true,true,true,true,true,true,true,true,true,true,true,true,true,true,true,true,true,true,true,true,true,true,true,false,true,true,true,true,true,false,false,false]) rfl rfl ⟨_, rfl, hz2⟩ (EX.call rfl cl12 rfl ((out_w H ho (by omega)))) ?_
                rintro _ w ⟨q, qc, qs, rfl, hoq, H⟩
                refine JA.all [24] (by kernel_rfl) (by decide) ?_
                refine JO.go (listed' := [true,true,true,true,true,true,true,true,true,true,true,true,true,true,true,true,true,true,true,true,true,true,true,true,true,true,true,true,true,true,false,false,false]) rfl rfl ⟨_, rfl, hz2⟩ (RX.b2s (l := ys) H rfl hoq.slAt sl26 ud5 ud9) ?_
                refine JA.take 30 (listed' := [true,true,true,true,true,true,true,true,true,true,true,true,true,true,true,true,true,true,true,true,true,true,true,true,true,true,true,true,true,true,true,false,false]) rfl (by kernel_rfl) (by kernel_rfl) (by kernel_rfl) rfl ⟨_, rfl, hz2⟩ (fun w => RX.str_neq rfl rfl) ?_
                refine JA.take 31 (listed' := [true,true,true,true,true,true,true,true,true,true,true,true,true,true,true,true,true,true,true,true,true,true,true,true,true,true,true,true,true,true,true,true,false]) rfl (by kernel_rfl) (by kernel_rfl) (by kernel_rfl) rfl ⟨_, rfl, (decide_eq_false (by omega))⟩ (fun w => RX.pick_t rfl hz2) ?_
                refine JA.take 32 (listed' := [true,true,true,true,true,true,true,true,true,true,true,true,true,true,true,true,true,true,true,true,true,true,true,true,true,true,true,true,true,true,true,true,true]) rfl (by kernel_rfl) (by kernel_rfl) (by kernel_rfl) rfl trivial (fun w => RX.pick_f rfl (decide_eq_false (by omega))) ?_
                refine JA.done (by kernel_rfl) ?_
                refine J.cond_f rfl (by first | rfl | exact hz2 | (subst hyk; exact decide_eq_false (fun h => h rfl))) ?_
                refine J.skip ?_
                refine J.inBlock ?_
                refine J.region ?_
                refine JL.go trivial (RX.add rfl rfl (w_i64 rfl (by omega) (by omega))) ?_
                refine JL.go trivial (RX.movev (v := Value.int _ _) rfl) ?_
                refine JL.nil ?_
                first
                | exact IH (i + 1, at_ + k) _ _ (by simp only; omega) ⟨rfl, rfl, rfl, rfl, trivial⟩ ⟨rfl, trivial⟩ ⟨by simp only; omega, by simp only; omega, H.drop.drop.drop⟩
                | exact IH (i + 1, at_ + k) _ _ (by simp only; omega) ⟨rfl, rfl, rfl, rfl, trivial⟩ ⟨rfl, trivial⟩ ⟨by simp only; omega, by simp only; omega, H.drop.drop⟩
                | exact IH (i + 1, at_) _ _ (by simp only; omega) ⟨rfl, rfl, rfl, rfl, trivial⟩ ⟨rfl, trivial⟩ ⟨by simp only; omega, hat, H.drop.drop⟩
          · skip
            refine J.seq ?_
            refine J.region ?_
            refine JL.go trivial (RX.eq rfl rfl) ?_
            refine JL.go trivial (RX.assignv (v := Value.bool _) rfl) ?_
            refine JL.nil ?_
            refine J.cond_d rfl (fun h4 => ?_) (fun h4 => ?_)
            · skip
              refine J.seq ?_
              refine J.region ?_
              refine JL.go trivial (RX.movev (v := Value.pointer _) rfl) ?_
              replace H := (H.pull 3 rfl).pull 3 rfl
              refine JL.does trivial (EX.call rfl cl32 rfl ((rNarrow_c H hor hat (by omega) hE.cons.cons.cons))) ?_
              rintro _ w ⟨rfl, H⟩
              obtain ⟨he, hek, hkl, hys⟩ := one_form (d := (0, 0)) (f := fun z => nB (z)) (rNa_g (bs.drop at_)) (fun a k h => rNa_b h)
              rw [List.length_drop] at hkl
              replace hys : (rNa (bs.drop at_)).code = 0 → nB ((rNa (bs.drop at_)).val (0, 0)) = (bs.drop at_).take (rNa (bs.drop at_)).k := hys
              generalize hee : (rNa (bs.drop at_)).code = e at he hek hys ⊢
              generalize hkk : (rNa (bs.drop at_)).k = k at hek hkl hys H
              clear hee hkk
              refine JL.go trivial (RX.movev (v := Value.tuple _) rfl) ?_
              refine JL.go trivial (RX.extract rfl rfl) ?_
              refine JL.go trivial (RX.extract (v := errV E e) rfl rfl) ?_
              refine JL.go trivial (RX.assignv (v := Value.complex _ _ _) rfl) ?_
              refine JL.go trivial (RX.assignv (v := errV E e) rfl) ?_
              refine JL.nil ?_
              refine J.seq ?_
              refine J.region ?_
              refine JL.go trivial (RX.movev (v := errV E e) rfl) ?_
              refine JL.go trivial (RX.assignv (v := errV E e) rfl) ?_
              refine JL.nil ?_
              refine J.region ?_
              refine JL.go trivial (RX.movev (v := Value.pointer _) rfl) ?_
              refine JL.go trivial (RX.movev (v := Value.complex _ _ _) rfl) ?_
              replace H := (H.pull 3 rfl).pull 3 rfl
              refine JL.does trivial (EX.call rfl cl33 rfl ((Narrow_c (xs := []) ⟨none, 0, [], OwnSl.nil, H⟩ (rNa_okv _) (by decide)))) ?_
              rintro _ w ⟨rfl, p, cp, s, ho, H⟩
              rw [List.nil_append] at ho H
              generalize nB ((rNa (bs.drop at_)).val (0, 0)) = ys at ho H hys
              refine JL.nil ?_
              refine J.inBlock ?_
              refine J.seq ?_
              refine J.region ?_
              refine JL.go trivial (RX.movev (v := Value.pointer _) rfl) ?_
              refine JL.does trivial (EX.call rfl cl19 rfl ((at_r (i := 2) H rfl))) ?_
              rintro _ w ⟨rfl, H⟩
              refine JL.go trivial (RX.assignv (v := Value.int _ _) rfl) ?_
              refine JL.nil ?_
              refine J.seq ?_
              obtain ⟨hie, hnn⟩ := er_ie hE he
              refine J.any hmix fun w hs => ?_
              replace H := H.same hs; clear hs
              refine JA.take 0 (listed' := [true,false,false,false,false,false,false,false,false,false,false,false,false,false,false,false,false,false,false,false,false,false,false,false,false,false,false,false,false,false,false,false,false]) rfl (by kernel_rfl) (by kernel_rfl) (by kernel_rfl) rfl trivial (fun w => RX.movev (v := errV E e) rfl) ?_
              refine JA.take 1 (listed' := [true,true,false,false,false,false,false,false,false,false,false,false,false,false,false,false,false,false,false,false,false,false,false,false,false,false,false,false,false,false,false,false,false]) rfl (by kernel_rfl) (by kernel_rfl) (by kernel_rfl) rfl trivial (fun w => RX.ifnil_neq (v := errV E e) rfl rfl hie if40) ?_
              refine JA.take 2 (listed' := [true,true,true,false,false,false,false,false,false,false,false,false,false,false,false,false,false,false,false,false,false,false,false,false,false,false,false,false,false,false,false,false,false]) rfl (by kernel_rfl) (by kernel_rfl) (by kernel_rfl) rfl trivial (fun w => RX.movev (v := Value.bool _) rfl) ?_
              refine JA.splitS 152 rfl (fun hz => ?_) (fun hz => ?_)
              · skip
                first | have hzp := of_decide_eq_true hz | skip
                have hz2 : isNil (errV E e) = false := by simpa using hz
                have he0 : ¬ e = 0 := by intro h; rw [hnn, decide_eq_true h] at hz2; cases hz2
                have hk0 := hek he0
                refine JA.take 3 (listed' := [true,true,true,true,false,false,false,false,false,false,false,false,false,false,false,false,false,false,false,false,false,false,false,false,false,false,false,false,false,false,false,false,false]) rfl (by kernel_rfl) (by kernel_rfl) (by kernel_rfl) rfl ⟨_, rfl, hz⟩ (fun w => RX.movev (v := Value.int _ _) rfl) ?_
                refine JA.take 4 (listed' := [true,true,true,true,true,false,false,false,false,false,false,false,false,false,false,false,false,false,false,false,false,false,false,false,false,false,false,false,false,false,false,false,false]) rfl (by kernel_rfl) (by kernel_rfl) (by kernel_rfl) rfl ⟨_, rfl, hz⟩ (fun w => RX.movev (v := Value.int _ _) rfl) ?_
                refine JA.take 5 (listed' := [true,true,true,true,true,true,false,false,false,false,false,false,false,false,false,false,false,false,false,false,false,false,false,false,false,false,false,false,false,false,false,false,false]) rfl (by kernel_rfl) (by kernel_rfl) (by kernel_rfl) rfl ⟨_, rfl, hz⟩ (fun w => RX.ne rfl rfl) ?_
                refine JA.take 6 (listed' := [true,true,true,true,true,true,true,false,false,false,false,false,false,false,false,false,false,false,false,false,false,false,false,false,false,false,false,false,false,false,false,false,false]) rfl (by kernel_rfl) (by kernel_rfl) (by kernel_rfl) rfl trivial (fun w => RX.pick_t rfl hz) ?_
                refine JA.take 7 (listed' := [true,true,true,true,true,true,true,true,false,false,false,false,false,false,false,false,false,false,false,false,false,false,false,false,false,false,false,false,false,false,false,false,false]) rfl (by kernel_rfl) (by kernel_rfl) (by kernel_rfl) rfl trivial (fun w => RX.movev (v := Value.bool _) rfl) ?_
                refine JA.take 8 (listed' := [true,true,true,true,true,true,true,true,true,false,false,false,false,false,false,false,false,false,false,false,false,false,false,false,false,false,false,false,false,false,false,false,false]) rfl (by kernel_rfl) (by kernel_rfl) (by kernel_rfl) rfl ⟨_, rfl, (by first | rfl | exact decide_eq_false (by omega))⟩ (fun w => RX.movev (v := Value.int _ _) rfl) ?_
                refine JA.take 9 (listed' := [true,true,true,true,true,true,true,true,true,true,false,false,false,false,false,false,false,false,false,false,false,false,false,false,false,false,false,false,false,false,false,false,false]) rfl (by kernel_rfl) (by kernel_rfl) (by kernel_rfl) rfl ⟨_, rfl, (by first | rfl | exact decide_eq_false (by omega))⟩ (fun w => RX.movev (v := Value.int _ _) rfl) ?_
                refine JA.take 10 (listed' := [true,true,true,true,true,true,true,true,true,true,true,false,false,false,false,false,false,false,false,false,false,false,false,false,false,false,false,false,false,false,false,false,false]) rfl (by kernel_rfl) (by kernel_rfl) (by kernel_rfl) rfl ⟨_, rfl, (by first | rfl | exact decide_eq_false (by omega))⟩ (fun w => RX.lt rfl rfl) ?_
                refine JA.take 11 (listed' := [true,true,true,true,true,true,true,true,true,true,true,true,false,false,false,false,false,false,false,false,false,false,false,false,false,false,false,false,false,false,false,false,false]) rfl (by kernel_rfl) (by kernel_rfl) (by kernel_rfl) rfl trivial (fun w => RX.pick_f rfl (by first | rfl | exact decide_eq_false (by omega))) ?_
                refine JA.take 12 (listed' := [true,true,true,true,true,true,true,true,true,true,true,true,true,false,false,false,false,false,false,false,false,false,false,false,false,false,false,false,false,false,false,false,false]) rfl (by kernel_rfl) (by kernel_rfl) (by kernel_rfl) rfl trivial (fun w => RX.movev (v := Value.bool _) rfl) ?_
                refine JA.take 13 (listed' := [true,true,true,true,true,true,true,true,true,true,true,true,true,true,false,false,false,false,false,false,false,false,false,false,false,false,false,false,false,false,false,false,false]) rfl (by kernel_rfl) (by kernel_rfl) (by kernel_rfl) rfl ⟨_, rfl, (decide_eq_false (by omega))⟩ (fun w => RX.movev (v := Value.int _ _) rfl) ?_
                refine JA.take 14 (listed' := [true,true,true,true,true,true,true,true,true,true,true,true,true,true,true,false,false,false,false,false,false,false,false,false,false,false,false,false,false,false,false,false,false]) rfl (by kernel_rfl) (by kernel_rfl) (by kernel_rfl) rfl ⟨_, rfl, (decide_eq_false (by omega))⟩ (fun w => RX.movev (v := Value.slice _ _ _) rfl) ?_
                refine JA.take 15 (listed' := [true,true,true,true,true,true,true,true,true,true,true,true,true,true,true,true,false,false,false,false,false,false,false,false,false,false,false,false,false,false,false,false,false]) rfl (by kernel_rfl) (by kernel_rfl) (by kernel_rfl) rfl ⟨_, rfl, (decide_eq_false (by omega))⟩ (fun w => RX.len_slice rfl (by rw [sl26]; rfl) rfl) ?_
                refine JA.take 16 (listed' := [true,true,true,true,true,true,true,true,true,true,true,true,true,true,true,true,true,false,false,false,false,false,false,false,false,false,false,false,false,false,false,false,false]) rfl (by kernel_rfl) (by kernel_rfl) (by kernel_rfl) rfl ⟨_, rfl, (decide_eq_false (by omega))⟩ (fun w => RX.gt rfl rfl) ?_
                refine JA.take 17 (listed' := [true,true,true,true,true,true,true,true,true,true,true,true,true,true,true,true,true,true,false,false,false,false,false,false,false,false,false,false,false,false,false,false,false]) rfl (by kernel_rfl) (by kernel_rfl) (by kernel_rfl) rfl trivial (fun w => RX.pick_f rfl (decide_eq_false (by omega))) ?_
                refine JA.take 18 (listed' := [true,true,true,true,true,true,true,true,true,true,true,true,true,true,true,true,true,true,true,false,false,false,false,false,false,false,false,false,false,false,false,false,false]) rfl (by kernel_rfl) (by kernel_rfl) (by kernel_rfl) rfl trivial (fun w => RX.movev (v := Value.bool _) rfl) ?_
                refine JA.take 19 (listed' := [true,true,true,true,true,true,true,true,true,true,true,true,true,true,true,true,true,true,true,true,false,false,false,false,false,false,false,false,false,false,false,false,false]) rfl (by kernel_rfl) (by kernel_rfl) (by kernel_rfl) rfl ⟨_, rfl, (decide_eq_false (by omega))⟩ (fun w => RX.movev (v := errV E e) rfl) ?_
                refine JA.take 20 (listed' := [true,true,true,true,true,true,true,true,true,true,true,true,true,true,true,true,true,true,true,true,true,false,false,false,false,false,false,false,false,false,false,false,false]) rfl (by kernel_rfl) (by kernel_rfl) (by kernel_rfl) rfl ⟨_, rfl, (decide_eq_false (by omega))⟩ (fun w => RX.ifnil_eql (v := errV E e) rfl rfl hie if40) ?_
                refine JA.take 21 (listed' := [true,true,true,true,true,true,true,true,true,true,true,true,true,true,true,true,true,true,true,true,true,true,false,false,false,false,false,false,false,false,false,false,false]) rfl (by kernel_rfl) (by kernel_rfl) (by kernel_rfl) rfl ⟨_, rfl, (decide_eq_false (by omega))⟩ (fun w => RX.movev (v := Value.bool _) rfl) ?_
                refine JA.takeno 22 (listed' := [true,true,true,true,true,true,true,true,true,true,true,true,true,true,true,true,true,true,true,true,true,true,true,false,false,false,false,false,false,false,false,false,false]) rfl (by kernel_rfl) (by kernel_rfl) (by kernel_rfl) rfl ⟨_, rfl, gno hz2⟩ ?_
                refine JA.takeno 23 (listed' := [true,true,true,true,true,true,true,true,true,true,true,true,true,true,true,true,true,true,true,true,true,true,true,true,false,false,false,false,false,false,false,false,false]) rfl (by kernel_rfl) (by kernel_rfl) (by kernel_rfl) rfl ⟨_, rfl, gno hz2⟩ ?_
                refine JA.takeno 24 (listed' := [true,true,true,true,true,true,true,true,true,true,true,true,true,true,true,true,true,true,true,true,true,true,true,true,true,false,false,false,false,false,false,false,false]) rfl (by kernel_rfl) (by kernel_rfl) (by kernel_rfl) rfl ⟨_, rfl, gno hz2⟩ ?_
                refine JA.takeno 25 (listed' := [true,true,true,true,true,true,true,true,true,true,true,true,true,true,true,true,true,true,true,true,true,true,true,true,true,true,false,false,false,false,false,false,false]) rfl (by kernel_rfl) (by kernel_rfl) (by kernel_rfl) rfl ⟨_, rfl, gno hz2⟩ ?_
                refine JA.takeno 26 (listed' := [true,true,true,true,true,true,true,true,true,true,true,true,true,true,true,true,true,true,true,true,true,true,true,true,true,true,true,false,false,false,false,false,false]) rfl (by kernel_rfl) (by kernel_rfl) (by kernel_rfl) rfl ⟨_, rfl, gno hz2⟩ ?_
                refine JA.takeno 27 (listed' := [true,true,true,true,true,true,true,true,true,true,true,true,true,true,true,true,true,true,true,true,true,true,true,true,true,true,true,true,false,false,false,false,false]) rfl (by kernel_rfl) (by kernel_rfl) (by kernel_rfl) rfl ⟨_, rfl, gno hz2⟩ ?_
                refine JA.takeno 28 (listed' := [true,true,true,true,true,true,true,true,true,true,true,true,true,true,true,true,true,true,true,true,true,true,true,true,true,true,true,true,true,false,false,false,false]) rfl (by kernel_rfl) (by kernel_rfl) (by kernel_rfl) rfl ⟨_, rfl, gno hz2⟩ ?_
                refine JA.takeno 29 (listed' := [true,true,true,true,true,true,true,true,true,true,true,true,true,true,true,true,true,true,true,true,true,true,true,true,true,true,true,true,true,true,false,false,false]) rfl (by kernel_rfl) (by kernel_rfl) (by kernel_rfl) rfl ⟨_, rfl, gno hz2⟩ ?_
                refine JA.takeno 30 (listed' := [true,true,true,true,true,true,true,true,true,true,true,true,true,true,true,true,true,true,true,true,true,true,true,true,true,true,true,true,true,true,true,false,false]) rfl (by kernel_rfl) (by kernel_rfl) (by kernel_rfl) rfl ⟨_, rfl, gno hz2⟩ ?_
                refine JA.take 31 (listed' := [true,true,true,true,true,true,true,true,true,true,true,true,true,true,true,true,true,true,true,true,true,true,true,true,true,true,true,true,true,true,true,true,false]) rfl (by kernel_rfl) (by kernel_rfl) (by kernel_rfl) rfl ⟨_, rfl, (decide_eq_false (by omega))⟩ (fun w => RX.pick_f rfl hz2) ?_
                refine JA.take 32 (listed' := [true,true,true,true,true,true,true,true,true,true,true,true,true,true,true,true,true,true,true,true,true,true,true,true,true,true,true,true,true,true,true,true,true]) rfl (by kernel_rfl) (by kernel_rfl) (by kernel_rfl) rfl trivial (fun w => RX.pick_f rfl (decide_eq_false (by omega))) ?_
                refine JA.done (by kernel_rfl) ?_
                refine J.cond_f rfl (by first | rfl | exact hz2 | (subst hyk; exact decide_eq_false (fun h => h rfl))) ?_
                refine J.skip ?_
                refine J.inBlock ?_
                refine J.region ?_
                refine JL.go trivial (RX.add rfl rfl (w_i64 rfl (by omega) (by omega))) ?_
                refine JL.go trivial (RX.movev (v := Value.int _ _) rfl) ?_
                refine JL.nil ?_
                first
                | exact IH (i + 1, at_ + k) _ _ (by simp only; omega) ⟨rfl, rfl, rfl, rfl, trivial⟩ ⟨rfl, trivial⟩ ⟨by simp only; omega, by simp only; omega, H.drop.drop.drop⟩
                | exact IH (i + 1, at_ + k) _ _ (by simp only; omega) ⟨rfl, rfl, rfl, rfl, trivial⟩ ⟨rfl, trivial⟩ ⟨by simp only; omega, by simp only; omega, H.drop.drop⟩
                | exact IH (i + 1, at_) _ _ (by simp only; omega) ⟨rfl, rfl, rfl, rfl, trivial⟩ ⟨rfl, trivial⟩ ⟨by simp only; omega, hat, H.drop.drop⟩
              · skip
                first | have hzp := of_decide_eq_false hz | skip
                have hz2 : isNil (errV E e) = true := by simpa using hz
                have he0 : e = 0 := of_decide_eq_true (hnn.symm.trans hz2)
                have hyk := hys he0
                have hyl : ys.length = k := by rw [hyk, List.length_take, List.length_drop]; omega
                have hslice : SlAt F (behind bp bc at_ 1) (bv ((bs.drop at_).take k)) := by
                  have h := (SlAt.behind (cap := bc) (r := at_) (sz := 1) hbs (by rw [bv_len]; omega)).take (n := k)
                  rw [bv_part] at h
                  exact h
                refine JA.takeno 3 (listed' := [true,true,true,true,false,false,false,false,false,false,false,false,false,false,false,false,false,false,false,false,false,false,false,false,false,false,false,false,false,false,false,false,false]) rfl (by kernel_rfl) (by kernel_rfl) (by kernel_rfl) rfl ⟨_, rfl, gno hz⟩ ?_
                refine JA.takeno 4 (listed' := [true,true,true,true,true,false,false,false,false,false,false,false,false,false,false,false,false,false,false,false,false,false,false,false,false,false,false,false,false,false,false,false,false]) rfl (by kernel_rfl) (by kernel_rfl) (by kernel_rfl) rfl ⟨_, rfl, gno hz⟩ ?_
                refine JA.takeno 5 (listed' := [true,true,true,true,true,true,false,false,false,false,false,false,false,false,false,false,false,false,false,false,false,false,false,false,false,false,false,false,false,false,false,false,false]) rfl (by kernel_rfl) (by kernel_rfl) (by kernel_rfl) rfl ⟨_, rfl, gno hz⟩ ?_
                refine JA.take 6 (listed' := [true,true,true,true,true,true,true,false,false,false,false,false,false,false,false,false,false,false,false,false,false,false,false,false,false,false,false,false,false,false,false,false,false]) rfl (by kernel_rfl) (by kernel_rfl) (by kernel_rfl) rfl trivial (fun w => RX.pick_f rfl hz) ?_
                refine JA.take 7 (listed' := [true,true,true,true,true,true,true,true,false,false,false,false,false,false,false,false,false,false,false,false,false,false,false,false,false,false,false,false,false,false,false,false,false]) rfl (by kernel_rfl) (by kernel_rfl) (by kernel_rfl) rfl trivial (fun w => RX.movev (v := Value.bool _) rfl) ?_
                refine JA.take 8 (listed' := [true,true,true,true,true,true,true,true,true,false,false,false,false,false,false,false,false,false,false,false,false,false,false,false,false,false,false,false,false,false,false,false,false]) rfl (by kernel_rfl) (by kernel_rfl) (by kernel_rfl) rfl ⟨_, rfl, rfl⟩ (fun w => RX.movev (v := Value.int _ _) rfl) ?_
                refine JA.take 9 (listed' := [true,true,true,true,true,true,true,true,true,true,false,false,false,false,false,false,false,false,false,false,false,false,false,false,false,false,false,false,false,false,false,false,false]) rfl (by kernel_rfl) (by kernel_rfl) (by kernel_rfl) rfl ⟨_, rfl, rfl⟩ (fun w => RX.movev (v := Value.int _ _) rfl) ?_
                refine JA.take 10 (listed' := [true,true,true,true,true,true,true,true,true,true,true,false,false,false,false,false,false,false,false,false,false,false,false,false,false,false,false,false,false,false,false,false,false]) rfl (by kernel_rfl) (by kernel_rfl) (by kernel_rfl) rfl ⟨_, rfl, rfl⟩ (fun w => RX.lt rfl rfl) ?_
                refine JA.take 11 (listed' := [true,true,true,true,true,true,true,true,true,true,true,true,false,false,false,false,false,false,false,false,false,false,false,false,false,false,false,false,false,false,false,false,false]) rfl (by kernel_rfl) (by kernel_rfl) (by kernel_rfl) rfl trivial (fun w => RX.pick_f rfl rfl) ?_
                refine JA.take 12 (listed' := [true,true,true,true,true,true,true,true,true,true,true,true,true,false,false,false,false,false,false,false,false,false,false,false,false,false,false,false,false,false,false,false,false]) rfl (by kernel_rfl) (by kernel_rfl) (by kernel_rfl) rfl trivial (fun w => RX.movev (v := Value.bool _) rfl) ?_
                refine JA.take 13 (listed' := [true,true,true,true,true,true,true,true,true,true,true,true,true,true,false,false,false,false,false,false,false,false,false,false,false,false,false,false,false,false,false,false,false]) rfl (by kernel_rfl) (by kernel_rfl) (by kernel_rfl) rfl ⟨_, rfl, (decide_eq_false (by omega))⟩ (fun w => RX.movev (v := Value.int _ _) rfl) ?_
                refine JA.take 14 (listed' := [true,true,true,true,true,true,true,true,true,true,true,true,true,true,true,false,false,false,false,false,false,false,false,false,false,false,false,false,false,false,false,false,false]) rfl (by kernel_rfl) (by kernel_rfl) (by kernel_rfl) rfl ⟨_, rfl, (decide_eq_false (by omega))⟩ (fun w => RX.movev (v := Value.slice _ _ _) rfl) ?_
                refine JA.take 15 (listed' := [true,true,true,true,true,true,true,true,true,true,true,true,true,true,true,true,false,false,false,false,false,false,false,false,false,false,false,false,false,false,false,false,false]) rfl (by kernel_rfl) (by kernel_rfl) (by kernel_rfl) rfl ⟨_, rfl, (decide_eq_false (by omega))⟩ (fun w => RX.len_slice rfl (by rw [sl26]; rfl) rfl) ?_
                refine JA.take 16 (listed' := [true,true,true,true,true,true,true,true,true,true,true,true,true,true,true,true,true,false,false,false,false,false,false,false,false,false,false,false,false,false,false,false,false]) rfl (by kernel_rfl) (by kernel_rfl) (by kernel_rfl) rfl ⟨_, rfl, (decide_eq_false (by omega))⟩ (fun w => RX.gt rfl rfl) ?_
                refine JA.take 17 (listed' := [true,true,true,true,true,true,true,true,true,true,true,true,true,true,true,true,true,true,false,false,false,false,false,false,false,false,false,false,false,false,false,false,false]) rfl (by kernel_rfl) (by kernel_rfl) (by kernel_rfl) rfl trivial (fun w => RX.pick_f rfl (decide_eq_false (by omega))) ?_
                refine JA.take 18 (listed' := [true,true,true,true,true,true,true,true,true,true,true,true,true,true,true,true,true,true,true,false,false,false,false,false,false,false,false,false,false,false,false,false,false]) rfl (by kernel_rfl) (by kernel_rfl) (by kernel_rfl) rfl trivial (fun w => RX.movev (v := Value.bool _) rfl) ?_
                refine JA.take 19 (listed' := [true,true,true,true,true,true,true,true,true,true,true,true,true,true,true,true,true,true,true,true,false,false,false,false,false,false,false,false,false,false,false,false,false]) rfl (by kernel_rfl) (by kernel_rfl) (by kernel_rfl) rfl ⟨_, rfl, (decide_eq_false (by omega))⟩ (fun w => RX.movev (v := errV E e) rfl) ?_
                refine JA.take 20 (listed' := [true,true,true,true,true,true,true,true,true,true,true,true,true,true,true,true,true,true,true,true,true,false,false,false,false,false,false,false,false,false,false,false,false]) rfl (by kernel_rfl) (by kernel_rfl) (by kernel_rfl) rfl ⟨_, rfl, (decide_eq_false (by omega))⟩ (fun w => RX.ifnil_eql (v := errV E e) rfl rfl hie if40) ?_
                refine JA.take 21 (listed' := [true,true,true,true,true,true,true,true,true,true,true,true,true,true,true,true,true,true,true,true,true,true,false,false,false,false,false,false,false,false,false,false,false]) rfl (by kernel_rfl) (by kernel_rfl) (by kernel_rfl) rfl ⟨_, rfl, (decide_eq_false (by omega))⟩ (fun w => RX.movev (v := Value.bool _) rfl) ?_
                refine JA.take 22 (listed' := [true,true,true,true,true,true,true,true,true,true,true,true,true,true,true,true,true,true,true,true,true,true,true,false,false,false,false,false,false,false,false,false,false]) rfl (by kernel_rfl) (by kernel_rfl) (by kernel_rfl) rfl ⟨_, rfl, hz2⟩ (fun w => RX.movev (v := Value.pointer _) rfl) ?_
                refine JA.take 25 (listed' := [true,true,true,true,true,true,true,true,true,true,true,true,true,true,true,true,true,true,true,true,true,true,true,false,false,true,false,false,false,false,false,false,false]) rfl (by kernel_rfl) (by kernel_rfl) (by kernel_rfl) rfl ⟨_, rfl, hz2⟩ (fun w => RX.movev (v := Value.slice _ _ _) rfl) ?_
                refine JA.take 26 (listed' := [true,true,true,true,true,true,true,true,true,true,true,true,true,true,true,true,true,true,true,true,true,true,true,false,false,true,true,false,false,false,false,false,false]) rfl (by kernel_rfl) (by kernel_rfl) (by kernel_rfl) rfl ⟨_, rfl, hz2⟩ (fun w => RX.movev (v := Value.int _ _) rfl) ?_
                refine JA.take 27 (listed' := [true,true,true,true,true,true,true,true,true,true,true,true,true,true,true,true,true,true,true,true,true,true,true,false,false,true,true,true,false,false,false,false,false]) rfl (by kernel_rfl) (by kernel_rfl) (by kernel_rfl) rfl ⟨_, rfl, hz2⟩ (fun w => RX.movev (v := Value.int _ _) rfl) ?_
                refine JA.take 28 (listed' := [true,true,true,true,true,true,true,true,true,true,true,true,true,true,true,true,true,true,true,true,true,true,true,false,false,true,true,true,true,false,false,false,false]) rfl (by kernel_rfl) (by kernel_rfl) (by kernel_rfl) rfl ⟨_, rfl, hz2⟩ (fun w => RX.slice_lh2 rfl rfl rfl sl26 (fun a ha => (hsp a ha).imp id (fun h => by omega)) (by omega) (by omega) (by omega) (r := at_) (s := at_ + k) rfl rfl) ?_
                refine JA.all [23, 29] (by kernel_rfl) (by decide) ?_
                refine ⟨?_, ?_⟩
                · skip
                  refine JO.does (listed' := [true,true,true,true,true,true,true,true,true,true,true,true,true,true,true,true,true,true,true,true,true,true,true,true,false,true,true,true,true,false,false,false,false]) rfl rfl ⟨_, rfl, hz2⟩ (EX.call rfl cl12 rfl ((out_w H ho (by omega)))) ?_
                  rintro _ w ⟨q, qc, qs, rfl, hoq, H⟩
                  refine JA.all [24, 29] (by kernel_rfl) (by decide) ?_
                  refine ⟨?_, ?_⟩
                  · skip
                    refine JO.go (listed' := [true,true,true,true,true,true,true,true,true,true,true,true,true,true,true,true,true,true,true,true,true,true,true,true,true,true,true,true,true,false,false,false,false]) rfl rfl ⟨_, rfl, hz2⟩ (RX.b2s (l := ys) H rfl hoq.slAt sl26 ud5 ud9) ?_
                    refine JA.all [29] (by kernel_rfl) (by decide) ?_
                    rw [show at_ + k - at_ = ((bs.drop at_).take k).length by rw [List.length_take, List.length_drop]; omega]
                    refine JO.go (listed' := [true,true,true,true,true,true,true,true,true,true,true,true,true,true,true,true,true,true,true,true,true,true,true,true,true,true,true,true,true,true,false,false,false]) rfl rfl ⟨_, rfl, hz2⟩ (RX.b2s (l := (bs.drop at_).take k) H rfl (by first | exact hslice.cons.cons.cons.cons.cons.cons | exact hslice.cons.cons.cons.cons.cons) sl26 ud5 ud9) ?_
                    refine JA.take 30 (listed' := [true,true,true,true,true,true,true,true,true,true,true,true,true,true,true,true,true,true,true,true,true,true,true,true,true,true,true,true,true,true,true,false,false]) rfl (by kernel_rfl) (by kernel_rfl) (by kernel_rfl) rfl ⟨_, rfl, hz2⟩ (fun w => RX.str_neq rfl rfl) ?_
                    refine JA.take 31 (listed' := [true,true,true,true,true,true,true,true,true,true,true,true,true,true,true,true,true,true,true,true,true,true,true,true,true,true,true,true,true,true,true,true,false]) rfl (by kernel_rfl) (by kernel_rfl) (by kernel_rfl) rfl ⟨_, rfl, (decide_eq_false (by omega))⟩ (fun w => RX.pick_t rfl hz2) ?_
                    refine JA.take 32 (listed' := [true,true,true,true,true,true,true,true,true,true,true,true,true,true,true,true,true,true,true,true,true,true,true,true,true,true,true,true,true,true,true,true,true]) rfl (by kernel_rfl) (by kernel_rfl) (by kernel_rfl) rfl trivial (fun w => RX.pick_f rfl (decide_eq_false (by omega))) ?_
                    refine JA.done (by kernel_rfl) ?_
                    refine J.cond_f rfl (by first | rfl | exact hz2 | (subst hyk; exact decide_eq_false (fun h => h rfl))) ?_
                    refine J.skip ?_
                    refine J.inBlock ?_
                    refine J.region ?_
                    refine JL.go trivial (RX.add rfl rfl (w_i64 rfl (by omega) (by omega))) ?_
                    refine JL.go trivial (RX.movev (v := Value.int _ _) rfl) ?_
                    refine JL.nil ?_
                    first
                    | exact IH (i + 1, at_ + k) _ _ (by simp only; omega) ⟨rfl, rfl, rfl, rfl, trivial⟩ ⟨rfl, trivial⟩ ⟨by simp only; omega, by simp only; omega, H.drop.drop.drop⟩
                    | exact IH (i + 1, at_ + k) _ _ (by simp only; omega) ⟨rfl, rfl, rfl, rfl, trivial⟩ ⟨rfl, trivial⟩ ⟨by simp only; omega, by simp only; omega, H.drop.drop⟩
                    | exact IH (i + 1, at_) _ _ (by simp only; omega) ⟨rfl, rfl, rfl, rfl, trivial⟩ ⟨rfl, trivial⟩ ⟨by simp only; omega, hat, H.drop.drop⟩
                  · skip
                    rw [show at_ + k - at_ = ((bs.drop at_).take k).length by rw [List.length_take, List.length_drop]; omega]
                    refine JO.go (listed' := [true,true,true,true,true,true,true,true,true,true,true,true,true,true,true,true,true,true,true,true,true,true,true,true,false,true,true,true,true,true,false,false,false]) rfl rfl ⟨_, rfl, hz2⟩ (RX.b2s (l := (bs.drop at_).take k) H rfl (by first | exact hslice.cons.cons.cons.cons.cons.cons | exact hslice.cons.cons.cons.cons.cons) sl26 ud5 ud9) ?_
                    refine JA.all [24] (by kernel_rfl) (by decide) ?_
                    refine JO.go (listed' := [true,true,true,true,true,true,true,true,true,true,true,true,true,true,true,true,true,true,true,true,true,true,true,true,true,true,true,true,true,true,false,false,false]) rfl rfl ⟨_, rfl, hz2⟩ (RX.b2s (l := ys) H rfl hoq.slAt sl26 ud5 ud9) ?_
                    refine JA.take 30 (listed' := [true,true,true,true,true,true,true,true,true,true,true,true,true,true,true,true,true,true,true,true,true,true,true,true,true,true,true,true,true,true,true,false,false]) rfl (by kernel_rfl) (by kernel_rfl) (by kernel_rfl) rfl ⟨_, rfl, hz2⟩ (fun w => RX.str_neq rfl rfl) ?_
                    refine JA.take 31 (listed' := [true,true,true,true,true,true,true,true,true,true,true,true,true,true,true,true,true,true,true,true,true,true,true,true,true,true,true,true,true,true,true,true,false]) rfl (by kernel_rfl) (by kernel_rfl) (by kernel_rfl) rfl ⟨_, rfl, (decide_eq_false (by omega))⟩ (fun w => RX.pick_t rfl hz2) ?_
                    refine JA.take 32 (listed' := [true,true,true,true,true,true,true,true,true,true,true,true,true,true,true,true,true,true,true,true,true,true,true,true,true,true,true,true,true,true,true,true,true]) rfl (by kernel_rfl) (by kernel_rfl) (by kernel_rfl) rfl trivial (fun w => RX.pick_f rfl (decide_eq_false (by omega))) ?_
                    refine JA.done (by kernel_rfl) ?_
                    refine J.cond_f rfl (by first | rfl | exact hz2 | (subst hyk; exact decide_eq_false (fun h => h rfl))) ?_
                    refine J.skip ?_
                    refine J.inBlock ?_
                    refine J.region ?_
                    refine JL.go trivial (RX.add rfl rfl (w_i64 rfl (by omega) (by omega))) ?_
                    refine JL.go trivial (RX.movev (v := Value.int _ _) rfl) ?_
                    refine JL.nil ?_
                    first
                    | exact IH (i + 1, at_ + k) _ _ (by simp only; omega) ⟨rfl, rfl, rfl, rfl, trivial⟩ ⟨rfl, trivial⟩ ⟨by simp only; omega, by simp only; omega, H.drop.drop.drop⟩
                    | exact IH (i + 1, at_ + k) _ _ (by simp only; omega) ⟨rfl, rfl, rfl, rfl, trivial⟩ ⟨rfl, trivial⟩ ⟨by simp only; omega, by simp only; omega, H.drop.drop⟩
                    | exact IH (i + 1, at_) _ _ (by simp only; omega) ⟨rfl, rfl, rfl, rfl, trivial⟩ ⟨rfl, trivial⟩ ⟨by simp only; omega, hat, H.drop.drop⟩
                · skip
                  rw [show at_ + k - at_ = ((bs.drop at_).take k).length by rw [List.length_take, List.length_drop]; omega]
                  refine JO.go (listed' := [true,true,true,true,true,true,true,true,true,true,true,true,true,true,true,true,true,true,true,true,true,true,true,false,false,true,true,true,true,true,false,false,false]) rfl rfl ⟨_, rfl, hz2⟩ (RX.b2s (l := (bs.drop at_).take k) H rfl (by first | exact hslice.cons.cons.cons.cons.cons.cons | exact hslice.cons.cons.cons.cons.cons) sl26 ud5 ud9) ?_
                  refine JA.all [23] (by kernel_rfl) (by decide) ?_
                  refine JO.does (listed' := [true,true,true,true,true,true,true,true,true,true,true,true,true,true,true,true,true,true,true,true,true,true,true,true,false,true,true,true,true,true,false,false,false]) rfl rfl ⟨_, rfl, hz2⟩ (EX.call rfl cl12 rfl ((out_w H ho (by omega)))) ?_
                  rintro _ w ⟨q, qc, qs, rfl, hoq, H⟩
                  refine JA.all [24] (by kernel_rfl) (by decide) ?_
                  refine JO.go (listed' := [true,true,true,true,true,true,true,true,true,true,true,true,true,true,true,true,true,true,true,true,true,true,true,true,true,true,true,true,true,true,false,false,false]) rfl rfl ⟨_, rfl, hz2⟩ (RX.b2s (l := ys) H rfl hoq.slAt sl26 ud5 ud9) ?_
                  refine JA.take 30 (listed' := [true,true,true,true,true,true,true,true,true,true,true,true,true,true,true,true,true,true,true,true,true,true,true,true,true,true,true,true,true,true,true,false,false]) rfl (by kernel_rfl) (by kernel_rfl) (by kernel_rfl) rfl ⟨_, rfl, hz2⟩ (fun w => RX.str_neq rfl rfl) ?_
                  refine JA.take 31 (listed' := [true,true,true,true,true,true,true,true,true,true,true,true,true,true,true,true,true,true,true,true,true,true,true,true,true,true,true,true,true,true,true,true,false]) rfl (by kernel_rfl) (by kernel_rfl) (by kernel_rfl) rfl ⟨_, rfl, (decide_eq_false (by omega))⟩ (fun w => RX.pick_t rfl hz2) ?_
                  refine JA.take 32 (listed' := [true,true,true,true,true,true,true,true,true,true,true,true,true,true,true,true,true,true,true,true,true,true,true,true,true,true,true,true,true,true,true,true,true]) rfl (by kernel_rfl) (by kernel_rfl) (by kernel_rfl) rfl trivial (fun w => RX.pick_f rfl (decide_eq_false (by omega))) ?_
                  refine JA.done (by kernel_rfl) ?_
                  refine J.cond_f rfl (by first | rfl | exact hz2 | (subst hyk; exact decide_eq_false (fun h => h rfl))) ?_
                  refine J.skip ?_
                  refine J.inBlock ?_
                  refine J.region ?_
                  refine JL.go trivial (RX.add rfl rfl (w_i64 rfl (by omega) (by omega))) ?_
                  refine JL.go trivial (RX.movev (v := Value.int _ _) rfl) ?_
                  refine JL.nil ?_
                  first
                  | exact IH (i + 1, at_ + k) _ _ (by simp only; omega) ⟨rfl, rfl, rfl, rfl, trivial⟩ ⟨rfl, trivial⟩ ⟨by simp only; omega, by simp only; omega, H.drop.drop.drop⟩
                  | exact IH (i + 1, at_ + k) _ _ (by simp only; omega) ⟨rfl, rfl, rfl, rfl, trivial⟩ ⟨rfl, trivial⟩ ⟨by simp only; omega, by simp only; omega, H.drop.drop⟩
                  | exact IH (i + 1, at_) _ _ (by simp only; omega) ⟨rfl, rfl, rfl, rfl, trivial⟩ ⟨rfl, trivial⟩ ⟨by simp only; omega, hat, H.drop.drop⟩
            · skip
              refine J.seq ?_
              refine J.region ?_
              refine JL.go trivial (RX.eq rfl rfl) ?_
              refine JL.go trivial (RX.assignv (v := Value.bool _) rfl) ?_
              refine JL.nil ?_
              refine J.cond_d rfl (fun h5 => ?_) (fun h5 => ?_)
              · skip
                refine J.seq ?_
                refine J.region ?_
                refine JL.go trivial (RX.movev (v := Value.pointer _) rfl) ?_
                replace H := (H.pull 3 rfl).pull 3 rfl
                refine JL.does trivial (EX.call rfl cl34 rfl ((rText_c (most := 1073741824) H hor hat (by omega) hE.cons.cons.cons (by decide) (by decide)))) ?_
                rintro _ w ⟨rfl, H⟩
                obtain ⟨he, hek, hkl, hys⟩ := one_form (d := []) (f := fun z => tB ⟨(z).toArray⟩) ((rTx_good _ (bs.drop at_)).1) (fun a k h => rTx_b h)
                rw [List.length_drop] at hkl
                replace hys : (rTx 1073741824 (bs.drop at_)).code = 0 → tB ⟨((rTx 1073741824 (bs.drop at_)).val []).toArray⟩ = (bs.drop at_).take (rTx 1073741824 (bs.drop at_)).k := hys
                generalize hee : (rTx 1073741824 (bs.drop at_)).code = e at he hek hys ⊢
                generalize hkk : (rTx 1073741824 (bs.drop at_)).k = k at hek hkl hys H
                clear hee hkk
                refine JL.go trivial (RX.movev (v := Value.tuple _) rfl) ?_
                refine JL.go trivial (RX.extract rfl rfl) ?_
                refine JL.go trivial (RX.extract (v := errV E e) rfl rfl) ?_
                refine JL.go trivial (RX.assignv (v := Value.string _) rfl) ?_
                refine JL.go trivial (RX.assignv (v := errV E e) rfl) ?_
                refine JL.nil ?_
                refine J.seq ?_
                refine J.region ?_
                refine JL.go trivial (RX.movev (v := errV E e) rfl) ?_
                refine JL.go trivial (RX.assignv (v := errV E e) rfl) ?_
                refine JL.nil ?_
                refine J.region ?_
                refine JL.go trivial (RX.movev (v := Value.pointer _) rfl) ?_
                refine JL.go trivial (RX.movev (v := Value.string _) rfl) ?_
                replace H := (H.pull 3 rfl).pull 3 rfl
                refine JL.does trivial (EX.call rfl cl35 rfl ((Text_c (xs := []) ⟨none, 0, [], OwnSl.nil, H⟩ (by rw [b_size]; exact rTx_okv _) (by rw [b_size]; have := rTx_okv (bs.drop at_); simp only [List.length_nil]; omega)))) ?_
                rintro _ w ⟨rfl, p, cp, s, ho, H⟩
                rw [List.nil_append] at ho H
                generalize tB ⟨((rTx 1073741824 (bs.drop at_)).val []).toArray⟩ = ys at ho H hys
                refine JL.nil ?_
                refine J.inBlock ?_
                refine J.seq ?_
                refine J.region ?_
                refine JL.go trivial (RX.movev (v := Value.pointer _) rfl) ?_
                refine JL.does trivial (EX.call rfl cl19 rfl ((at_r (i := 2) H rfl))) ?_
                rintro _ w ⟨rfl, H⟩
                refine JL.go trivial (RX.assignv (v := Value.int _ _) rfl) ?_
                refine JL.nil ?_
                refine J.seq ?_
                obtain ⟨hie, hnn⟩ := er_ie hE he
                refine J.any hmix fun w hs => ?_
                replace H := H.same hs; clear hs
                refine JA.take 0 (listed' := [true,false,false,false,false,false,false,false,false,false,false,false,false,false,false,false,false,false,false,false,false,false,false,false,false,false,false,false,false,false,false,false,false]) rfl (by kernel_rfl) (by kernel_rfl) (by kernel_rfl) rfl trivial (fun w => RX.movev (v := errV E e) rfl) ?_
                refine JA.take 1 (listed' := [true,true,false,false,false,false,false,false,false,false,false,false,false,false,false,false,false,false,false,false,false,false,false,false,false,false,false,false,false,false,false,false,false]) rfl (by kernel_rfl) (by kernel_rfl) (by kernel_rfl) rfl trivial (fun w => RX.ifnil_neq (v := errV E e) rfl rfl hie if40) ?_
                refine JA.take 2 (listed' := [true,true,true,false,false,false,false,false,false,false,false,false,false,false,false,false,false,false,false,false,false,false,false,false,false,false,false,false,false,false,false,false,false]) rfl (by kernel_rfl) (by kernel_rfl) (by kernel_rfl) rfl trivial (fun w => RX.movev (v := Value.bool _) rfl) ?_
                refine JA.splitS 152 rfl (fun hz => ?_) (fun hz => ?_)
                · skip
                  first | have hzp := of_decide_eq_true hz | skip
                  have hz2 : isNil (errV E e) = false := by simpa using hz
                  have he0 : ¬ e = 0 := by intro h; rw [hnn, decide_eq_true h] at hz2; cases hz2
                  have hk0 := hek he0
                  refine JA.take 3 (listed' := [true,true,true,true,false,false,false,false,false,false,false,false,false,false,false,false,false,false,false,false,false,false,false,false,false,false,false,false,false,false,false,false,false]) rfl (by kernel_rfl) (by kernel_rfl) (by kernel_rfl) rfl ⟨_, rfl, hz⟩ (fun w => RX.movev (v := Value.int _ _) rfl) ?_
                  refine JA.take 4 (listed' := [true,true,true,true,true,false,false,false,false,false,false,false,false,false,false,false,false,false,false,false,false,false,false,false,false,false,false,false,false,false,false,false,false]) rfl (by kernel_rfl) (by kernel_rfl) (by kernel_rfl) rfl ⟨_, rfl, hz⟩ (fun w => RX.movev (v := Value.int _ _) rfl) ?_
                  refine JA.take 5 (listed' := [true,true,true,true,true,true,false,false,false,false,false,false,false,false,false,false,false,false,false,false,false,false,false,false,false,false,false,false,false,false,false,false,false]) rfl (by kernel_rfl) (by kernel_rfl) (by kernel_rfl) rfl ⟨_, rfl, hz⟩ (fun w => RX.ne rfl rfl) ?_
                  refine JA.take 6 (listed' := [true,true,true,true,true,true,true,false,false,false,false,false,false,false,false,false,false,false,false,false,false,false,false,false,false,false,false,false,false,false,false,false,false]) rfl (by kernel_rfl) (by kernel_rfl) (by kernel_rfl) rfl trivial (fun w => RX.pick_t rfl hz) ?_
                  refine JA.take 7 (listed' := [true,true,true,true,true,true,true,true,false,false,false,false,false,false,false,false,false,false,false,false,false,false,false,false,false,false,false,false,false,false,false,false,false]) rfl (by kernel_rfl) (by kernel_rfl) (by kernel_rfl) rfl trivial (fun w => RX.movev (v := Value.bool _) rfl) ?_
                  refine JA.take 8 (listed' := [true,true,true,true,true,true,true,true,true,false,false,false,false,false,false,false,false,false,false,false,false,false,false,false,false,false,false,false,false,false,false,false,false]) rfl (by kernel_rfl) (by kernel_rfl) (by kernel_rfl) rfl ⟨_, rfl, (by first | rfl | exact decide_eq_false (by omega))⟩ (fun w => RX.movev (v := Value.int _ _) rfl) ?_
                  refine JA.take 9 (listed' := [true,true,true,true,true,true,true,true,true,true,false,false,false,false,false,false,false,false,false,false,false,false,false,false,false,false,false,false,false,false,false,false,false]) rfl (by kernel_rfl) (by kernel_rfl) (by kernel_rfl) rfl ⟨_, rfl, (by first | rfl | exact decide_eq_false (by omega))⟩ (fun w => RX.movev (v := Value.int _ _) rfl) ?_
                  refine JA.take 10 (listed' := [true,true,true,true,true,true,true,true,true,true,true,false,false,false,false,false,false,false,false,false,false,false,false,false,false,false,false,false,false,false,false,false,false]) rfl (by kernel_rfl) (by kernel_rfl) (by kernel_rfl) rfl ⟨_, rfl, (by first | rfl | exact decide_eq_false (by omega))⟩ (fun w => RX.lt rfl rfl) ?_
                  refine JA.take 11 (listed' := [true,true,true,true,true,true,true,true,true,true,true,true,false,false,false,false,false,false,false,false,false,false,false,false,false,false,false,false,false,false,false,false,false]) rfl (by kernel_rfl) (by kernel_rfl) (by kernel_rfl) rfl trivial (fun w => RX.pick_f rfl (by first | rfl | exact decide_eq_false (by omega))) ?_
                  refine JA.take 12 (listed' := [true,true,true,true,true,true,true,true,true,true,true,true,true,false,false,false,false,false,false,false,false,false,false,false,false,false,false,false,false,false,false,false,false]) rfl (by kernel_rfl) (by kernel_rfl) (by kernel_rfl) rfl trivial (fun w => RX.movev (v := Value.bool _) rfl) ?_
                  refine JA.take 13 (listed' := [true,true,true,true,true,true,true,true,true,true,true,true,true,true,false,false,false,false,false,false,false,false,false,false,false,false,false,false,false,false,false,false,false]) rfl (by kernel_rfl) (by kernel_rfl) (by kernel_rfl) rfl ⟨_, rfl, (decide_eq_false (by omega))⟩ (fun w => RX.movev (v := Value.int _ _) rfl) ?_
                  refine JA.take 14 (listed' := [true,true,true,true,true,true,true,true,true,true,true,true,true,true,true,false,false,false,false,false,false,false,false,false,false,false,false,false,false,false,false,false,false]) rfl (by kernel_rfl) (by kernel_rfl) (by kernel_rfl) rfl ⟨_, rfl, (decide_eq_false (by omega))⟩ (fun w => RX.movev (v := Value.slice _ _ _) rfl) ?_
                  refine JA.take 15 (listed' := [true,true,true,true,true,true,true,true,true,true,true,true,true,true,true,true,false,false,false,false,false,false,false,false,false,false,false,false,false,false,false,false,false]) rfl (by kernel_rfl) (by kernel_rfl) (by kernel_rfl) rfl ⟨_, rfl, (decide_eq_false (by omega))⟩ (fun w => RX.len_slice rfl (by rw [sl26]; rfl) rfl) ?_
                  refine JA.take 16 (listed' := [true,true,true,true,true,true,true,true,true,true,true,true,true,true,true,true,true,false,false,false,false,false,false,false,false,false,false,false,false,false,false,false,false]) rfl (by kernel_rfl) (by kernel_rfl) (by kernel_rfl) rfl ⟨_, rfl, (decide_eq_false (by omega))⟩ (fun w => RX.gt rfl rfl) ?_
                  refine JA.take 17 (listed' := [true,true,true,true,true,true,true,true,true,true,true,true,true,true,true,true,true,true,false,false,false,false,false,false,false,false,false,false,false,false,false,false,false]) rfl (by kernel_rfl) (by kernel_rfl) (by kernel_rfl) rfl trivial (fun w => RX.pick_f rfl (decide_eq_false (by omega))) ?_
                  refine JA.take 18 (listed' := [true,true,true,true,true,true,true,true,true,true,true,true,true,true,true,true,true,true,true,false,false,false,false,false,false,false,false,false,false,false,false,false,false]) rfl (by kernel_rfl) (by kernel_rfl) (by kernel_rfl) rfl trivial (fun w => RX.movev (v := Value.bool _) rfl) ?_
                  refine JA.take 19 (listed' := [true,true,true,true,true,true,true,true,true,true,true,true,true,true,true,true,true,true,true,true,false,false,false,false,false,false,false,false,false,false,false,false,false]) rfl (by kernel_rfl) (by kernel_rfl) (by kernel_rfl) rfl ⟨_, rfl, (decide_eq_false (by omega))⟩ (fun w => RX.movev (v := errV E e) rfl) ?_
                  refine JA.take 20 (listed' := [true,true,true,true,true,true,true,true,true,true,true,true,true,true,true,true,true,true,true,true,true,false,false,false,false,false,false,false,false,false,false,false,false]) rfl (by kernel_rfl) (by kernel_rfl) (by kernel_rfl) rfl ⟨_, rfl, (decide_eq_false (by omega))⟩ (fun w => RX.ifnil_eql (v := errV E e) rfl rfl hie if40) ?_
                  refine JA.take 21 (listed' := [true,true,true,true,true,true,true,true,true,true,true,true,true,true,true,true,true,true,true,true,true,true,false,false,false,false,false,false,false,false,false,false,false]) rfl (by kernel_rfl) (by kernel_rfl) (by kernel_rfl) rfl ⟨_, rfl, (decide_eq_false (by omega))⟩ (fun w => RX.movev (v := Value.bool _) rfl) ?_
                  refine JA.takeno 22 (listed' := [true,true,true,true,true,true,true,true,true,true,true,true,true,true,true,true,true,true,true,true,true,true,true,false,false,false,false,false,false,false,false,false,false]) rfl (by kernel_rfl) (by kernel_rfl) (by kernel_rfl) rfl ⟨_, rfl, gno hz2⟩ ?_
                  refine JA.takeno 23 (listed' := [true,true,true,true,true,true,true,true,true,true,true,true,true,true,true,true,true,true,true,true,true,true,true,true,false,false,false,false,false,false,false,false,false]) rfl (by kernel_rfl) (by kernel_rfl) (by kernel_rfl) rfl ⟨_, rfl, gno hz2⟩ ?_
                  refine JA.takeno 24 (listed' := [true,true,true,true,true,true,true,true,true,true,true,true,true,true,true,true,true,true,true,true,true,true,true,true,true,false,false,false,false,false,false,false,false]) rfl (by kernel_rfl) (by kernel_rfl) (by kernel_rfl) rfl ⟨_, rfl, gno hz2⟩ ?_
                  refine JA.takeno 25 (listed' := [true,true,true,true,true,true,true,true,true,true,true,true,true,true,true,true,true,true,true,true,true,true,true,true,true,true,false,false,false,false,false,false,false]) rfl (by kernel_rfl) (by kernel_rfl) (by kernel_rfl) rfl ⟨_, rfl, gno hz2⟩ ?_
                  refine JA.takeno 26 (listed' := [true,true,true,true,true,true,true,true,true,true,true,true,true,true,true,true,true,true,true,true,true,true,true,true,true,true,true,false,false,false,false,false,false]) rfl (by kernel_rfl) (by kernel_rfl) (by kernel_rfl) rfl ⟨_, rfl, gno hz2⟩ ?_
                  refine JA.takeno 27 (listed' := [true,true,true,true,true,true,true,true,true,true,true,true,true,true,true,true,true,true,true,true,true,true,true,true,true,true,true,true,false,false,false,false,false]) rfl (by kernel_rfl) (by kernel_rfl) (by kernel_rfl) rfl ⟨_, rfl, gno hz2⟩ ?_
                  refine JA.takeno 28 (listed' := [true,true,true,true,true,true,true,true,true,true,true,true,true,true,true,true,true,true,true,true,true,true,true,true,true,true,true,true,true,false,false,false,false]) rfl (by kernel_rfl) (by kernel_rfl) (by kernel_rfl) rfl ⟨_, rfl, gno hz2⟩ ?_
                  refine JA.takeno 29 (listed' := [true,true,true,true,true,true,true,true,true,true,true,true,true,true,true,true,true,true,true,true,true,true,true,true,true,true,true,true,true,true,false,false,false]) rfl (by kernel_rfl) (by kernel_rfl) (by kernel_rfl) rfl ⟨_, rfl, gno hz2⟩ ?_
                  refine JA.takeno 30 (listed' := [true,true,true,true,true,true,true,true,true,true,true,true,true,true,true,true,true,true,true,true,true,true,true,true,true,true,true,true,true,true,true,false,false]) rfl (by kernel_rfl) (by kernel_rfl) (by kernel_rfl) rfl ⟨_, rfl, gno hz2⟩ ?_
                  refine JA.take 31 (listed' := [true,true,true,true,true,true,true,true,true,true,true,true,true,true,true,true,true,true,true,true,true,true,true,true,true,true,true,true,true,true,true,true,false]) rfl (by kernel_rfl) (by kernel_rfl) (by kernel_rfl) rfl ⟨_, rfl, (decide_eq_false (by omega))⟩ (fun w => RX.pick_f rfl hz2) ?_
                  refine JA.take 32 (listed' := [true,true,true,true,true,true,true,true,true,true,true,true,true,true,true,true,true,true,true,true,true,true,true,true,true,true,true,true,true,true,true,true,true]) rfl (by kernel_rfl) (by kernel_rfl) (by kernel_rfl) rfl trivial (fun w => RX.pick_f rfl (decide_eq_false (by omega))) ?_
                  refine JA.done (by kernel_rfl) ?_
                  refine J.cond_f rfl (by first | rfl | exact hz2 | (subst hyk; exact decide_eq_false (fun h => h rfl))) ?_
                  refine J.skip ?_
                  refine J.inBlock ?_
                  refine J.region ?_
                  refine JL.go trivial (RX.add rfl rfl (w_i64 rfl (by omega) (by omega))) ?_
                  refine JL.go trivial (RX.movev (v := Value.int _ _) rfl) ?_
                  refine JL.nil ?_
                  first
                  | exact IH (i + 1, at_ + k) _ _ (by simp only; omega) ⟨rfl, rfl, rfl, rfl, trivial⟩ ⟨rfl, trivial⟩ ⟨by simp only; omega, by simp only; omega, H.drop.drop.drop⟩
                  | exact IH (i + 1, at_ + k) _ _ (by simp only; omega) ⟨rfl, rfl, rfl, rfl, trivial⟩ ⟨rfl, trivial⟩ ⟨by simp only; omega, by simp only; omega, H.drop.drop⟩
                  | exact IH (i + 1, at_) _ _ (by simp only; omega) ⟨rfl, rfl, rfl, rfl, trivial⟩ ⟨rfl, trivial⟩ ⟨by simp only; omega, hat, H.drop.drop⟩
                · skip
                  first | have hzp := of_decide_eq_false hz | skip
                  have hz2 : isNil (errV E e) = true := by simpa using hz
                  have he0 : e = 0 := of_decide_eq_true (hnn.symm.trans hz2)
                  have hyk := hys he0
                  have hyl : ys.length = k := by rw [hyk, List.length_take, List.length_drop]; omega
                  have hslice : SlAt F (behind bp bc at_ 1) (bv ((bs.drop at_).take k)) := by
                    have h := (SlAt.behind (cap := bc) (r := at_) (sz := 1) hbs (by rw [bv_len]; omega)).take (n := k)
                    rw [bv_part] at h
                    exact h
                  refine JA.takeno 3 (listed' := [true,true,true,true,false,false,false,false,false,false,false,false,false,false,false,false,false,false,false,false,false,false,false,false,false,false,false,false,false,false,false,false,false]) rfl (by kernel_rfl) (by kernel_rfl) (by kernel_rfl) rfl ⟨_, rfl, gno hz⟩ ?_
                  refine JA.takeno 4 (listed' := [true,true,true,true,true,false,false,false,false,false,false,false,false,false,false,false,false,false,false,false,false,false,false,false,false,false,false,false,false,false,false,false,false]) rfl (by kernel_rfl) (by kernel_rfl) (by kernel_rfl) rfl ⟨_, rfl, gno hz⟩ ?_
                  refine JA.takeno 5 (listed' := [true,true,true,true,true,true,false,false,false,false,false,false,false,false,false,false,false,false,false,false,false,false,false,false,false,false,false,false,false,false,false,false,false]) rfl (by kernel_rfl) (by kernel_rfl) (by kernel_rfl) rfl ⟨_, rfl, gno hz⟩ ?_
                  refine JA.take 6 (listed' := [true,true,true,true,true,true,true,false,false,false,false,false,false,false,false,false,false,false,false,false,false,false,false,false,false,false,false,false,false,false,false,false,false]) rfl (by kernel_rfl) (by kernel_rfl) (by kernel_rfl) rfl trivial (fun w => RX.pick_f rfl hz) ?_
                  refine JA.take 7 (listed' := [true,true,true,true,true,true,true,true,false,false,false,false,false,false,false,false,false,false,false,false,false,false,false,false,false,false,false,false,false,false,false,false,false]) rfl (by kernel_rfl) (by kernel_rfl) (by kernel_rfl) rfl trivial (fun w => RX.movev (v := Value.bool _) rfl) ?_
                  refine JA.take 8 (listed' := [true,true,true,true,true,true,true,true,true,false,false,false,false,false,false,false,false,false,false,false,false,false,false,false,false,false,false,false,false,false,false,false,false]) rfl (by kernel_rfl) (by kernel_rfl) (by kernel_rfl) rfl ⟨_, rfl, rfl⟩ (fun w => RX.movev (v := Value.int _ _) rfl) ?_
                  refine JA.take 9 (listed' := [true,true,true,true,true,true,true,true,true,true,false,false,false,false,false,false,false,false,false,false,false,false,false,false,false,false,false,false,false,false,false,false,false]) rfl (by kernel_rfl) (by kernel_rfl) (by kernel_rfl) rfl ⟨_, rfl, rfl⟩ (fun w => RX.movev (v := Value.int _ _) rfl) ?_
                  refine JA.take 10 (listed' := [true,true,true,true,true,true,true,true,true,true,true,false,false,false,false,false,false,false,false,false,false,false,false,false,false,false,false,false,false,false,false,false,false]) rfl (by kernel_rfl) (by kernel_rfl) (by kernel_rfl) rfl ⟨_, rfl, rfl⟩ (fun w => RX.lt rfl rfl) ?_
                  refine JA.take 11 (listed' := [true,true,true,true,true,true,true,true,true,true,true,true,false,false,false,false,false,false,false,false,false,false,false,false,false,false,false,false,false,false,false,false,false]) rfl (by kernel_rfl) (by kernel_rfl) (by kernel_rfl) rfl trivial (fun w => RX.pick_f rfl rfl) ?_
                  refine JA.take 12 (listed' := [true,true,true,true,true,true,true,true,true,true,true,true,true,false,false,false,false,false,false,false,false,false,false,false,false,false,false,false,false,false,false,false,false]) rfl (by kernel_rfl) (by kernel_rfl) (by kernel_rfl) rfl trivial (fun w => RX.movev (v := Value.bool _) rfl) ?_
                  refine JA.take 13 (listed' := [true,true,true,true,true,true,true,true,true,true,true,true,true,true,false,false,false,false,false,false,false,false,false,false,false,false,false,false,false,false,false,false,false]) rfl (by kernel_rfl) (by kernel_rfl) (by kernel_rfl) rfl ⟨_, rfl, (decide_eq_false (by omega))⟩ (fun w => RX.movev (v := Value.int _ _) rfl) ?_
                  refine JA.take 14 (listed' := [true,true,true,true,true,true,true,true,true,true,true,true,true,true,true,false,false,false,false,false,false,false,false,false,false,false,false,false,false,false,false,false,false]) rfl (by kernel_rfl) (by kernel_rfl) (by kernel_rfl) rfl ⟨_, rfl, (decide_eq_false (by omega))⟩ (fun w => RX.movev (v := Value.slice _ _ _) rfl) ?_
                  refine JA.take 15 (listed' := [true,true,true,true,true,true,true,true,true,true,true,true,true,true,true,true,false,false,false,false,false,false,false,false,false,false,false,false,false,false,false,false,false]) rfl (by kernel_rfl) (by kernel_rfl) (by kernel_rfl) rfl ⟨_, rfl, (decide_eq_false (by omega))⟩ (fun w => RX.len_slice rfl (by rw [sl26]; rfl) rfl) ?_
                  refine JA.take 16 (listed' := [true,true,true,true,true,true,true,true,true,true,true,true,true,true,true,true,true,false,false,false,false,false,false,false,false,false,false,false,false,false,false,false,false]) rfl (by kernel_rfl) (by kernel_rfl) (by kernel_rfl) rfl ⟨_, rfl, (decide_eq_false (by omega))⟩ (fun w => RX.gt rfl rfl) ?_
                  refine JA.take 17 (listed' := [true,true,true,true,true,true,true,true,true,true,true,true,true,true,true,true,true,true,false,false,false,false,false,false,false,false,false,false,false,false,false,false,false]) rfl (by kernel_rfl) (by kernel_rfl) (by kernel_rfl) rfl trivial (fun w => RX.pick_f rfl (decide_eq_false (by omega))) ?_
                  refine JA.take 18 (listed' := [true,true,true,true,true,true,true,true,true,true,true,true,true,true,true,true,true,true,true,false,false,false,false,false,false,false,false,false,false,false,false,false,false]) rfl (by kernel_rfl) (by kernel_rfl) (by kernel_rfl) rfl trivial (fun w => RX.movev (v := Value.bool _) rfl) ?_
                  refine JA.take 19 (listed' := [true,true,true,true,true,true,true,true,true,true,true,true,true,true,true,true,true,true,true,true,false,false,false,false,false,false,false,false,false,false,false,false,false]) rfl (by kernel_rfl) (by kernel_rfl) (by kernel_rfl) rfl ⟨_, rfl, (decide_eq_false (by omega))⟩ (fun w => RX.movev (v := errV E e) rfl) ?_
                  refine JA.take 20 (listed' := [true,true,true,true,true,true,true,true,true,true,true,true,true,true,true,true,true,true,true,true,true,false,false,false,false,false,false,false,false,false,false,false,false]) rfl (by kernel_rfl) (by kernel_rfl) (by kernel_rfl) rfl ⟨_, rfl, (decide_eq_false (by omega))⟩ (fun w => RX.ifnil_eql (v := errV E e) rfl rfl hie if40) ?_
                  refine JA.take 21 (listed' := [true,true,true,true,true,true,true,true,true,true,true,true,true,true,true,true,true,true,true,true,true,true,false,false,false,false,false,false,false,false,false,false,false]) rfl (by kernel_rfl) (by kernel_rfl) (by kernel_rfl) rfl ⟨_, rfl, (decide_eq_false (by omega))⟩ (fun w => RX.movev (v := Value.bool _) rfl) ?_
                  refine JA.take 22 (listed' := [true,true,true,true,true,true,true,true,true,true,true,true,true,true,true,true,true,true,true,true,true,true,true,false,false,false,false,false,false,false,false,false,false]) rfl (by kernel_rfl) (by kernel_rfl) (by kernel_rfl) rfl ⟨_, rfl, hz2⟩ (fun w => RX.movev (v := Value.pointer _) rfl) ?_
                  refine JA.take 25 (listed' := [true,true,true,true,true,true,true,true,true,true,true,true,true,true,true,true,true,true,true,true,true,true,true,false,false,true,false,false,false,false,false,false,false]) rfl (by kernel_rfl) (by kernel_rfl) (by kernel_rfl) rfl ⟨_, rfl, hz2⟩ (fun w => RX.movev (v := Value.slice _ _ _) rfl) ?_
                  refine JA.take 26 (listed' := [true,true,true,true,true,true,true,true,true,true,true,true,true,true,true,true,true,true,true,true,true,true,true,false,false,true,true,false,false,false,false,false,false]) rfl (by kernel_rfl) (by kernel_rfl) (by kernel_rfl) rfl ⟨_, rfl, hz2⟩ (fun w => RX.movev (v := Value.int _ _) rfl) ?_
                  refine JA.take 27 (listed' := [true,true,true,true,true,true,true,true,true,true,true,true,true,true,true,true,true,true,true,true,true,true,true,false,false,true,true,true,false,false,false,false,false]) rfl (by kernel_rfl) (by kernel_rfl) (by kernel_rfl) rfl ⟨_, rfl, hz2⟩ (fun w => RX.movev (v := Value.int _ _) rfl) ?_
                  refine JA.take 28 (listed' := [true,true,true,true,true,true,true,true,true,true,true,true,true,true,true,true,true,true,true,true,true,true,true,false,false,true,true,true,true,false,false,false,false]) rfl (by kernel_rfl) (by kernel_rfl) (by kernel_rfl) rfl ⟨_, rfl, hz2⟩ (fun w => RX.slice_lh2 rfl rfl rfl sl26 (fun a ha => (hsp a ha).imp id (fun h => by omega)) (by omega) (by omega) (by omega) (r := at_) (s := at_ + k) rfl rfl) ?_
                  refine JA.all [23, 29] (by kernel_rfl) (by decide) ?_
                  refine ⟨?_, ?_⟩
                  · skip
                    refine JO.does (listed' := [true,true,true,true,true,true,true,true,true,true,true,true,true,true,true,true,true,true,true,true,true,true,true,true,false,true,true,true,true,false,false,false,false]) rfl rfl ⟨_, rfl, hz2⟩ (EX.call rfl cl12 rfl ((out_w H ho (by omega)))) ?_
                    rintro _ w ⟨q, qc, qs, rfl, hoq, H⟩
                    refine JA.all [24, 29] (by kernel_rfl) (by decide) ?_
                    refine ⟨?_, ?_⟩
                    · skip
                      refine JO.go (listed' := [true,true,true,true,true,true,true,true,true,true,true,true,true,true,true,true,true,true,true,true,true,true,true,true,true,true,true,true,true,false,false,false,false]) rfl rfl ⟨_, rfl, hz2⟩ (RX.b2s (l := ys) H rfl hoq.slAt sl26 ud5 ud9) ?_
                      refine JA.all [29] (by kernel_rfl) (by decide) ?_
                      rw [show at_ + k - at_ = ((bs.drop at_).take k).length by rw [List.length_take, List.length_drop]; omega]
                      refine JO.go (listed' := [true,true,true,true,true,true,true,true,true,true,true,true,true,true,true,true,true,true,true,true,true,true,true,true,true,true,true,true,true,true,false,false,false]) rfl rfl ⟨_, rfl, hz2⟩ (RX.b2s (l := (bs.drop at_).take k) H rfl (by first | exact hslice.cons.cons.cons.cons.cons.cons | exact hslice.cons.cons.cons.cons.cons) sl26 ud5 ud9) ?_
                      refine JA.take 30 (listed' := [true,true,true,true,true,true,true,true,true,true,true,true,true,true,true,true,true,true,true,true,true,true,true,true,true,true,true,true,true,true,true,false,false]) rfl (by kernel_rfl) (by kernel_rfl) (by kernel_rfl) rfl ⟨_, rfl, hz2⟩ (fun w => RX.str_neq rfl rfl) ?_
                      refine JA.take 31 (listed' := [true,true,true,true,true,true,true,true,true,true,true,true,true,true,true,true,true,true,true,true,true,true,true,true,true,true,true,true,true,true,true,true,false]) rfl (by kernel_rfl) (by kernel_rfl) (by kernel_rfl) rfl ⟨_, rfl, (decide_eq_false (by omega))⟩ (fun w => RX.pick_t rfl hz2) ?_
                      refine JA.take 32 (listed' := [true,true,true,true,true,true,true,true,true,true,true,true,true,true,true,true,true,true,true,true,true,true,true,true,true,true,true,true,true,true,true,true,true]) rfl (by kernel_rfl) (by kernel_rfl) (by kernel_rfl) rfl trivial (fun w => RX.pick_f rfl (decide_eq_false (by omega))) ?_
                      refine JA.done (by kernel_rfl) ?_
                      refine J.cond_f rfl (by first | rfl | exact hz2 | (subst hyk; exact decide_eq_false (fun h => h rfl))) ?_
                      refine J.skip ?_
                      refine J.inBlock ?_
                      refine J.region ?_
                      refine JL.go trivial (RX.add rfl rfl (w_i64 rfl (by omega) (by omega))) ?_
                      refine JL.go trivial (RX.movev (v := Value.int _ _) rfl) ?_
                      refine JL.nil ?_
                      first
                      | exact IH (i + 1, at_ + k) _ _ (by simp only; omega) ⟨rfl, rfl, rfl, rfl, trivial⟩ ⟨rfl, trivial⟩ ⟨by simp only; omega, by simp only; omega, H.drop.drop.drop⟩
                      | exact IH (i + 1, at_ + k) _ _ (by simp only; omega) ⟨rfl, rfl, rfl, rfl, trivial⟩ ⟨rfl, trivial⟩ ⟨by simp only; omega, by simp only; omega, H.drop.drop⟩
                      | exact IH (i + 1, at_) _ _ (by simp only; omega) ⟨rfl, rfl, rfl, rfl, trivial⟩ ⟨rfl, trivial⟩ ⟨by simp only; omega, hat, H.drop.drop⟩
                    · skip
                      rw [show at_ + k - at_ = ((bs.drop at_).take k).length by rw [List.length_take, List.length_drop]; omega]
                      refine JO.go (listed' := [true,true,true,true,true,true,true,true,true,true,true,true,true,true,true,true,true,true,true,true,true,true,true,true,false,true,true,true,true,true,false,false,false]) rfl rfl ⟨_, rfl, hz2⟩ (RX.b2s (l := (bs.drop at_).take k) H rfl (by first | exact hslice.cons.cons.cons.cons.cons.cons | exact hslice.cons.cons.cons.cons.cons) sl26 ud5 ud9) ?_
                      refine JA.all [24] (by kernel_rfl) (by decide) ?_
                      refine JO.go (listed' := [true,true,true,true,true,true,true,true,true,true,true,true,true,true,true,true,true,true,true,true,true,true,true,true,true,true,true,true,true,true,false,false,false]) rfl rfl ⟨_, rfl, hz2⟩ (RX.b2s (l := ys) H rfl hoq.slAt sl26 ud5 ud9) ?_
                      refine JA.take 30 (listed' := [true,true,true,true,true,true,true,true,true,true,true,true,true,true,true,true,true,true,true,true,true,true,true,true,true,true,true,true,true,true,true,false,false]) rfl (by kernel_rfl) (by kernel_rfl) (by kernel_rfl) rfl ⟨_, rfl, hz2⟩ (fun w => RX.str_neq rfl rfl) ?_
                      refine JA.take 31 (listed' := [true,true,true,true,true,true,true,true,true,true,true,true,true,true,true,true,true,true,true,true,true,true,true,true,true,true,true,true,true,true,true,true,false]) rfl (by kernel_rfl) (by kernel_rfl) (by kernel_rfl) rfl ⟨_, rfl, (decide_eq_false (by omega))⟩ (fun w => RX.pick_t rfl hz2) ?_
                      refine JA.take 32 (listed' := [true,true,true,true,true,true,true,true,true,true,true,true,true,true,true,true,true,true,true,true,true,true,true,true,true,true,true,true,true,true,true,true,true]) rfl (by kernel_rfl) (by kernel_rfl) (by kernel_rfl) rfl trivial (fun w => RX.pick_f rfl (decide_eq_false (by omega))) ?_
                      refine JA.done (by kernel_rfl) ?_
                      refine J.cond_f rfl (by first | rfl | exact hz2 | (subst hyk; exact decide_eq_false (fun h => h rfl))) ?_
                      refine J.skip ?_
                      refine J.inBlock ?_
                      refine J.region ?_
                      refine JL.go trivial (RX.add rfl rfl (w_i64 rfl (by omega) (by omega))) ?_
                      refine JL.go trivial (RX.movev (v := Value.int _ _) rfl) ?_
                      refine JL.nil ?_
                      first
                      | exact IH (i + 1, at_ + k) _ _ (by simp only; omega) ⟨rfl, rfl, rfl, rfl, trivial⟩ ⟨rfl, trivial⟩ ⟨by simp only; omega, by simp only; omega, H.drop.drop.drop⟩
                      | exact IH (i + 1, at_ + k) _ _ (by simp only; omega) ⟨rfl, rfl, rfl, rfl, trivial⟩ ⟨rfl, trivial⟩ ⟨by simp only; omega, by simp only; omega, H.drop.drop⟩
                      | exact IH (i + 1, at_) _ _ (by simp only; omega) ⟨rfl, rfl, rfl, rfl, trivial⟩ ⟨rfl, trivial⟩ ⟨by simp only; omega, hat, H.drop.drop⟩
                  · skip
                    rw [show at_ + k - at_ = ((bs.drop at_).take k).length by rw [List.length_take, List.length_drop]; omega]
                    refine JO.go (listed' := [true,true,true,true,true,true,true,true,true,true,true,true,true,true,true,true,true,true,true,true,true,true,true,false,false,true,true,true,true,true,false,false,false]) rfl rfl ⟨_, rfl, hz2⟩ (RX.b2s (l := (bs.drop at_).take k) H rfl (by first | exact hslice.cons.cons.cons.cons.cons.cons | exact hslice.cons.cons.cons.cons.cons) sl26 ud5 ud9) ?_
                    refine JA.all [23] (by kernel_rfl) (by decide) ?_
                    refine JO.does (listed' := [true,true,true,true,true,true,true,true,true,true,true,true,true,true,true,true,true,true,true,true,true,true,true,true,false,true,true,true,true,true,false,false,false]) rfl rfl ⟨_, rfl, hz2⟩ (EX.call rfl cl12 rfl ((out_w H ho (by omega)))) ?_
                    rintro _ w ⟨q, qc, qs, rfl, hoq, H⟩
                    refine JA.all [24] (by kernel_rfl) (by decide) ?_
                    refine JO.go (listed' := [true,true,true,true,true,true,true,true,true,true,true,true,true,true,true,true,true,true,true,true,true,true,true,true,true,true,true,true,true,true,false,false,false]) rfl rfl ⟨_, rfl, hz2⟩ (RX.b2s (l := ys) H rfl hoq.slAt sl26 ud5 ud9) ?_
                    refine JA.take 30 (listed' := [true,true,true,true,true,true,true,true,true,true,true,true,true,true,true,true,true,true,true,true,true,true,true,true,true,true,true,true,true,true,true,false,false]) rfl (by kernel_rfl) (by kernel_rfl) (by kernel_rfl) rfl ⟨_, rfl, hz2⟩ (fun w => RX.str_neq rfl rfl) ?_
                    refine JA.take 31 (listed' := [true,true,true,true,true,true,true,true,true,true,true,true,true,true,true,true,true,true,true,true,true,true,true,true,true,true,true,true,true,true,true,true,false]) rfl (by kernel_rfl) (by kernel_rfl) (by kernel_rfl) rfl ⟨_, rfl, (decide_eq_false (by omega))⟩ (fun w => RX.pick_t rfl hz2) ?_
                    refine JA.take 32 (listed' := [true,true,true,true,true,true,true,true,true,true,true,true,true,true,true,true,true,true,true,true,true,true,true,true,true,true,true,true,true,true,true,true,true]) rfl (by kernel_rfl) (by kernel_rfl) (by kernel_rfl) rfl trivial (fun w => RX.pick_f rfl (decide_eq_false (by omega))) ?_
                    refine JA.done (by kernel_rfl) ?_
                    refine J.cond_f rfl (by first | rfl | exact hz2 | (subst hyk; exact decide_eq_false (fun h => h rfl))) ?_
                    refine J.skip ?_
                    refine J.inBlock ?_
                    refine J.region ?_
                    refine JL.go trivial (RX.add rfl rfl (w_i64 rfl (by omega) (by omega))) ?_
                    refine JL.go trivial (RX.movev (v := Value.int _ _) rfl) ?_
                    refine JL.nil ?_
                    first
                    | exact IH (i + 1, at_ + k) _ _ (by simp only; omega) ⟨rfl, rfl, rfl, rfl, trivial⟩ ⟨rfl, trivial⟩ ⟨by simp only; omega, by simp only; omega, H.drop.drop.drop⟩
                    | exact IH (i + 1, at_ + k) _ _ (by simp only; omega) ⟨rfl, rfl, rfl, rfl, trivial⟩ ⟨rfl, trivial⟩ ⟨by simp only; omega, by simp only; omega, H.drop.drop⟩
                    | exact IH (i + 1, at_) _ _ (by simp only; omega) ⟨rfl, rfl, rfl, rfl, trivial⟩ ⟨rfl, trivial⟩ ⟨by simp only; omega, hat, H.drop.drop⟩
              · skip
                refine J.seq ?_
                refine J.region ?_
                refine JL.go trivial (RX.eq rfl rfl) ?_
                refine JL.go trivial (RX.assignv (v := Value.bool _) rfl) ?_
                refine JL.nil ?_
                refine J.cond_d rfl (fun h6 => ?_) (fun h6 => ?_)
                · skip
                  refine J.seq ?_
                  refine J.region ?_
                  refine JL.go trivial (RX.movev (v := Value.pointer _) rfl) ?_
                  replace H := (H.pull 3 rfl).pull 3 rfl
                  refine JL.does trivial (EX.call rfl cl17 rfl ((rList_c H hor hat (by omega) hE.cons.cons.cons))) ?_
                  rintro _ w ⟨p2, c2, s2, rfl, ho2, H⟩
                  have hsm := rList_len rCo_g (bs.drop at_)
                  obtain ⟨he, hek, hkl, hys⟩ := one_form (d := []) (f := clB) ((rList_good rCo_g (bs.drop at_)).1) (fun a k h => rCos_b h)
                  rw [List.length_drop] at hkl
                  have hok := rCos_ok (bs.drop at_)
                  generalize hee : (rList rCo (bs.drop at_)).code = e at he hek hys ⊢
                  generalize hkk : (rList rCo (bs.drop at_)).k = k at hek hkl hys H
                  generalize hll : (rList rCo (bs.drop at_)).val [] = zs at hsm hok hys ho2 ⊢
                  clear hee hkk hll
                  refine JL.go trivial (RX.movev (v := Value.tuple _) rfl) ?_
                  refine JL.go trivial (RX.extract rfl rfl) ?_
                  refine JL.go trivial (RX.extract (v := errV E e) rfl rfl) ?_
                  refine JL.go trivial (RX.assignv (v := Value.slice _ _ _) rfl) ?_
                  refine JL.go trivial (RX.assignv (v := errV E e) rfl) ?_
                  refine JL.nil ?_
                  refine J.seq ?_
                  refine J.region ?_
                  refine JL.go trivial (RX.movev (v := errV E e) rfl) ?_
                  refine JL.go trivial (RX.assignv (v := errV E e) rfl) ?_
                  refine JL.nil ?_
                  refine J.seq ?_
                  refine J.region ?_
                  refine JL.go trivial (RX.movev (v := Value.pointer _) rfl) ?_
                  refine JL.go trivial (RX.movev (v := Value.slice _ _ _) rfl) ?_
                  replace H := (H.pull 4 rfl).pull 4 rfl
                  refine JL.does trivial (EX.call rfl cl14 rfl ((List_c (xs := []) ⟨none, 0, [], OwnSl.nil, H⟩ hE.cons.cons.cons.cons.g3 ho2.slAt hok (by omega) (by simp only [List.length_nil]; omega)))) ?_
                  rintro _ w h
                  simp only [if_pos hsm] at h
                  obtain ⟨rfl, p, cp, s, ho, H⟩ := h
                  replace H := (H.pull 2 rfl).drop
                  rw [List.nil_append] at ho H
                  rw [show varint zs.length ++ (zs.map cB).flatten = clB zs from rfl] at ho H
                  generalize clB zs = ys at ho H hys
                  refine JL.go trivial (RX.ifnil_neq rfl rfl rfl if40) ?_
                  refine JL.nil ?_
                  refine J.cond_f rfl rfl ?_
                  refine J.skip ?_
                  refine J.inBlock ?_
                  refine J.seq ?_
                  refine J.region ?_
                  refine JL.go trivial (RX.movev (v := Value.pointer _) rfl) ?_
                  refine JL.does trivial (EX.call rfl cl19 rfl ((at_r (i := 2) H rfl))) ?_
                  rintro _ w ⟨rfl, H⟩
                  refine JL.go trivial (RX.assignv (v := Value.int _ _) rfl) ?_
                  refine JL.nil ?_
                  refine J.seq ?_
                  obtain ⟨hie, hnn⟩ := er_ie hE he
                  refine J.any hmix fun w hs => ?_
                  replace H := H.same hs; clear hs
                  refine JA.take 0 (listed' := [true,false,false,false,false,false,false,false,false,false,false,false,false,false,false,false,false,false,false,false,false,false,false,false,false,false,false,false,false,false,false,false,false]) rfl (by kernel_rfl) (by kernel_rfl) (by kernel_rfl) rfl trivial (fun w => RX.movev (v := errV E e) rfl) ?_
                  refine JA.take 1 (listed' := [true,true,false,false,false,false,false,false,false,false,false,false,false,false,false,false,false,false,false,false,false,false,false,false,false,false,false,false,false,false,false,false,false]) rfl (by kernel_rfl) (by kernel_rfl) (by kernel_rfl) rfl trivial (fun w => RX.ifnil_neq (v := errV E e) rfl rfl hie if40) ?_
                  refine JA.take 2 (listed' := [true,true,true,false,false,false,false,false,false,false,false,false,false,false,false,false,false,false,false,false,false,false,false,false,false,false,false,false,false,false,false,false,false]) rfl (by kernel_rfl) (by kernel_rfl) (by kernel_rfl) rfl trivial (fun w => RX.movev (v := Value.bool _) rfl) ?_
                  refine JA.splitS 152 rfl (fun hz => ?_) (fun hz => ?_)
                  · skip
                    first | have hzp := of_decide_eq_true hz | skip
                    have hz2 : isNil (errV E e) = false := by simpa using hz
                    have he0 : ¬ e = 0 := by intro h; rw [hnn, decide_eq_true h] at hz2; cases hz2
                    have hk0 := hek he0
                    refine JA.take 3 (listed' := [true,true,true,true,false,false,false,false,false,false,false,false,false,false,false,false,false,false,false,false,false,false,false,false,false,false,false,false,false,false,false,false,false]) rfl (by kernel_rfl) (by kernel_rfl) (by kernel_rfl) rfl ⟨_, rfl, hz⟩ (fun w => RX.movev (v := Value.int _ _) rfl) ?_
                    refine JA.take 4 (listed' := [true,true,true,true,true,false,false,false,false,false,false,false,false,false,false,false,false,false,false,false,false,false,false,false,false,false,false,false,false,false,false,false,false]) rfl (by kernel_rfl) (by kernel_rfl) (by kernel_rfl) rfl ⟨_, rfl, hz⟩ (fun w => RX.movev (v := Value.int _ _) rfl) ?_
                    refine JA.take 5 (listed' := [true,true,true,true,true,true,false,false,false,false,false,false,false,false,false,false,false,false,false,false,false,false,false,false,false,false,false,false,false,false,false,false,false]) rfl (by kernel_rfl) (by kernel_rfl) (by kernel_rfl) rfl ⟨_, rfl, hz⟩ (fun w => RX.ne rfl rfl) ?_
                    refine JA.take 6 (listed' := [true,true,true,true,true,true,true,false,false,false,false,false,false,false,false,false,false,false,false,false,false,false,false,false,false,false,false,false,false,false,false,false,false]) rfl (by kernel_rfl) (by kernel_rfl) (by kernel_rfl) rfl trivial (fun w => RX.pick_t rfl hz) ?_
                    refine JA.take 7 (listed' := [true,true,true,true,true,true,true,true,false,false,false,false,false,false,false,false,false,false,false,false,false,false,false,false,false,false,false,false,false,false,false,false,false]) rfl (by kernel_rfl) (by kernel_rfl) (by kernel_rfl) rfl trivial (fun w => RX.movev (v := Value.bool _) rfl) ?_
                    refine JA.take 8 (listed' := [true,true,true,true,true,true,true,true,true,false,false,false,false,false,false,false,false,false,false,false,false,false,false,false,false,false,false,false,false,false,false,false,false]) rfl (by kernel_rfl) (by kernel_rfl) (by kernel_rfl) rfl ⟨_, rfl, (by first | rfl | exact decide_eq_false (by omega))⟩ (fun w => RX.movev (v := Value.int _ _) rfl) ?_
                    refine JA.take 9 (listed' := [true,true,true,true,true,true,true,true,true,true,false,false,false,false,false,false,false,false,false,false,false,false,false,false,false,false,false,false,false,false,false,false,false]) rfl (by kernel_rfl) (by kernel_rfl) (by kernel_rfl) rfl ⟨_, rfl, (by first | rfl | exact decide_eq_false (by omega))⟩ (fun w => RX.movev (v := Value.int _ _) rfl) ?_
                    refine JA.take 10 (listed' := [true,true,true,true,true,true,true,true,true,true,true,false,false,false,false,false,false,false,false,false,false,false,false,false,false,false,false,false,false,false,false,false,false]) rfl (by kernel_rfl) (by kernel_rfl) (by kernel_rfl) rfl ⟨_, rfl, (by first | rfl | exact decide_eq_false (by omega))⟩ (fun w => RX.lt rfl rfl) ?_
                    refine JA.take 11 (listed' := [true,true,true,true,true,true,true,true,true,true,true,true,false,false,false,false,false,false,false,false,false,false,false,false,false,false,false,false,false,false,false,false,false]) rfl (by kernel_rfl) (by kernel_rfl) (by kernel_rfl) rfl trivial (fun w => RX.pick_f rfl (by first | rfl | exact decide_eq_false (by omega))) ?_
                    refine JA.take 12 (listed' := [true,true,true,true,true,true,true,true,true,true,true,true,true,false,false,false,false,false,false,false,false,false,false,false,false,false,false,false,false,false,false,false,false]) rfl (by kernel_rfl) (by kernel_rfl) (by kernel_rfl) rfl trivial (fun w => RX.movev (v := Value.bool _) rfl) ?_
                    refine JA.take 13 (listed' := [true,true,true,true,true,true,true,true,true,true,true,true,true,true,false,false,false,false,false,false,false,false,false,false,false,false,false,false,false,false,false,false,false]) rfl (by kernel_rfl) (by kernel_rfl) (by kernel_rfl) rfl ⟨_, rfl, (decide_eq_false (by omega))⟩ (fun w => RX.movev (v := Value.int _ _) rfl) ?_
                    refine JA.take 14 (listed' := [true,true,true,true,true,true,true,true,true,true,true,true,true,true,true,false,false,false,false,false,false,false,false,false,false,false,false,false,false,false,false,false,false]) rfl (by kernel_rfl) (by kernel_rfl) (by kernel_rfl) rfl ⟨_, rfl, (decide_eq_false (by omega))⟩ (fun w => RX.movev (v := Value.slice _ _ _) rfl) ?_
                    refine JA.take 15 (listed' := [true,true,true,true,true,true,true,true,true,true,true,true,true,true,true,true,false,false,false,false,false,false,false,false,false,false,false,false,false,false,false,false,false]) rfl (by kernel_rfl) (by kernel_rfl) (by kernel_rfl) rfl ⟨_, rfl, (decide_eq_false (by omega))⟩ (fun w => RX.len_slice rfl (by rw [sl26]; rfl) rfl) ?_
                    refine JA.take 16 (listed' := [true,true,true,true,true,true,true,true,true,true,true,true,true,true,true,true,true,false,false,false,false,false,false,false,false,false,false,false,false,false,false,false,false]) rfl (by kernel_rfl) (by kernel_rfl) (by kernel_rfl) rfl ⟨_, rfl, (decide_eq_false (by omega))⟩ (fun w => RX.gt rfl rfl) ?_
                    refine JA.take 17 (listed' := [true,true,true,true,true,true,true,true,true,true,true,true,true,true,true,true,true,true,false,false,false,false,false,false,false,false,false,false,false,false,false,false,false]) rfl (by kernel_rfl) (by kernel_rfl) (by kernel_rfl) rfl trivial (fun w => RX.pick_f rfl (decide_eq_false (by omega))) ?_
                    refine JA.take 18 (listed' := [true,true,true,true,true,true,true,true,true,true,true,true,true,true,true,true,true,true,true,false,false,false,false,false,false,false,false,false,false,false,false,false,false]) rfl (by kernel_rfl) (by kernel_rfl) (by kernel_rfl) rfl trivial (fun w => RX.movev (v := Value.bool _) rfl) ?_
                    refine JA.take 19 (listed' := [true,true,true,true,true,true,true,true,true,true,true,true,true,true,true,true,true,true,true,true,false,false,false,false,false,false,false,false,false,false,false,false,false]) rfl (by kernel_rfl) (by kernel_rfl) (by kernel_rfl) rfl ⟨_, rfl, (decide_eq_false (by omega))⟩ (fun w => RX.movev (v := errV E e) rfl) ?_
                    refine JA.take 20 (listed' := [true,true,true,true,true,true,true,true,true,true,true,true,true,true,true,true,true,true,true,true,true,false,false,false,false,false,false,false,false,false,false,false,false]) rfl (by kernel_rfl) (by kernel_rfl) (by kernel_rfl) rfl ⟨_, rfl, (decide_eq_false (by omega))⟩ (fun w => RX.ifnil_eql (v := errV E e) rfl rfl hie if40) ?_
                    refine JA.take 21 (listed' := [true,true,true,true,true,true,true,true,true,true,true,true,true,true,true,true,true,true,true,true,true,true,false,false,false,false,false,false,false,false,false,false,false]) rfl (by kernel_rfl) (by kernel_rfl) (by kernel_rfl) rfl ⟨_, rfl, (decide_eq_false (by omega))⟩ (fun w => RX.movev (v := Value.bool _) rfl) ?_
                    refine JA.takeno 22 (listed' := [true,true,true,true,true,true,true,true,true,true,true,true,true,true,true,true,true,true,true,true,true,true,true,false,false,false,false,false,false,false,false,false,false]) rfl (by kernel_rfl) (by kernel_rfl) (by kernel_rfl) rfl ⟨_, rfl, gno hz2⟩ ?_
                    refine JA.takeno 23 (listed' := [true,true,true,true,true,true,true,true,true,true,true,true,true,true,true,true,true,true,true,true,true,true,true,true,false,false,false,false,false,false,false,false,false]) rfl (by kernel_rfl) (by kernel_rfl) (by kernel_rfl) rfl ⟨_, rfl, gno hz2⟩ ?_
                    refine JA.takeno 24 (listed' := [true,true,true,true,true,true,true,true,true,true,true,true,true,true,true,true,true,true,true,true,true,true,true,true,true,false,false,false,false,false,false,false,false]) rfl (by kernel_rfl) (by kernel_rfl) (by kernel_rfl) rfl ⟨_, rfl, gno hz2⟩ ?_
                    refine JA.takeno 25 (listed' := [true,true,true,true,true,true,true,true,true,true,true,true,true,true,true,true,true,true,true,true,true,true,true,true,true,true,false,false,false,false,false,false,false]) rfl (by kernel_rfl) (by kernel_rfl) (by kernel_rfl) rfl ⟨_, rfl, gno hz2⟩ ?_
                    refine JA.takeno 26 (listed' := [true,true,true,true,true,true,true,true,true,true,true,true,true,true,true,true,true,true,true,true,true,true,true,true,true,true,true,false,false,false,false,false,false]) rfl (by kernel_rfl) (by kernel_rfl) (by kernel_rfl) rfl ⟨_, rfl, gno hz2⟩ ?_
                    refine JA.takeno 27 (listed' := [true,true,true,true,true,true,true,true,true,true,true,true,true,true,true,true,true,true,true,true,true,true,true,true,true,true,true,true,false,false,false,false,false]) rfl (by kernel_rfl) (by kernel_rfl) (by kernel_rfl) rfl ⟨_, rfl, gno hz2⟩ ?_
                    refine JA.takeno 28 (listed' := [true,true,true,true,true,true,true,true,true,true,true,true,true,true,true,true,true,true,true,true,true,true,true,true,true,true,true,true,true,false,false,false,false]) rfl (by kernel_rfl) (by kernel_rfl) (by kernel_rfl) rfl ⟨_, rfl, gno hz2⟩ ?_
                    refine JA.takeno 29 (listed' := [true,true,true,true,true,true,true,true,true,true,true,true,true,true,true,true,true,true,true,true,true,true,true,true,true,true,true,true,true,true,false,false,false]) rfl (by kernel_rfl) (by kernel_rfl) (by kernel_rfl) rfl ⟨_, rfl, gno hz2⟩ ?_
                    refine JA.takeno 30 (listed' := [true,true,true,true,true,true,true,true,true,true,true,true,true,true,true,true,true,true,true,true,true,true,true,true,true,true,true,true,true,true,true,false,false]) rfl (by kernel_rfl) (by kernel_rfl) (by kernel_rfl) rfl ⟨_, rfl, gno hz2⟩ ?_
                    refine JA.take 31 (listed' := [true,true,true,true,true,true,true,true,true,true,true,true,true,true,true,true,true,true,true,true,true,true,true,true,true,true,true,true,true,true,true,true,false]) rfl (by kernel_rfl) (by kernel_rfl) (by kernel_rfl) rfl ⟨_, rfl, (decide_eq_false (by omega))⟩ (fun w => RX.pick_f rfl hz2) ?_
                    refine JA.take 32 (listed' := [true,true,true,true,true,true,true,true,true,true,true,true,true,true,true,true,true,true,true,true,true,true,true,true,true,true,true,true,true,true,true,true,true]) rfl (by kernel_rfl) (by kernel_rfl) (by kernel_rfl) rfl trivial (fun w => RX.pick_f rfl (decide_eq_false (by omega))) ?_
                    refine JA.done (by kernel_rfl) ?_
                    refine J.cond_f rfl (by first | rfl | exact hz2 | (subst hyk; exact decide_eq_false (fun h => h rfl))) ?_
                    refine J.skip ?_
                    refine J.inBlock ?_
                    refine J.region ?_
                    refine JL.go trivial (RX.add rfl rfl (w_i64 rfl (by omega) (by omega))) ?_
                    refine JL.go trivial (RX.movev (v := Value.int _ _) rfl) ?_
                    refine JL.nil ?_
                    first
                    | exact IH (i + 1, at_ + k) _ _ (by simp only; omega) ⟨rfl, rfl, rfl, rfl, trivial⟩ ⟨rfl, trivial⟩ ⟨by simp only; omega, by simp only; omega, H.drop.drop.drop⟩
                    | exact IH (i + 1, at_ + k) _ _ (by simp only; omega) ⟨rfl, rfl, rfl, rfl, trivial⟩ ⟨rfl, trivial⟩ ⟨by simp only; omega, by simp only; omega, H.drop.drop⟩
                    | exact IH (i + 1, at_) _ _ (by simp only; omega) ⟨rfl, rfl, rfl, rfl, trivial⟩ ⟨rfl, trivial⟩ ⟨by simp only; omega, hat, H.drop.drop⟩
                  · skip
                    first | have hzp := of_decide_eq_false hz | skip
                    have hz2 : isNil (errV E e) = true := by simpa using hz
                    have he0 : e = 0 := of_decide_eq_true (hnn.symm.trans hz2)
                    have hyk := hys he0
                    have hyl : ys.length = k := by rw [hyk, List.length_take, List.length_drop]; omega
                    have hslice : SlAt F (behind bp bc at_ 1) (bv ((bs.drop at_).take k)) := by
                      have h := (SlAt.behind (cap := bc) (r := at_) (sz := 1) hbs (by rw [bv_len]; omega)).take (n := k)
                      rw [bv_part] at h
                      exact h
                    refine JA.takeno 3 (listed' := [true,true,true,true,false,false,false,false,false,false,false,false,false,false,false,false,false,false,false,false,false,false,false,false,false,false,false,false,false,false,false,false,false]) rfl (by kernel_rfl) (by kernel_rfl) (by kernel_rfl) rfl ⟨_, rfl, gno hz⟩ ?_
                    refine JA.takeno 4 (listed' := [true,true,true,true,true,false,false,false,false,false,false,false,false,false,false,false,false,false,false,false,false,false,false,false,false,false,false,false,false,false,false,false,false]) rfl (by kernel_rfl) (by kernel_rfl) (by kernel_rfl) rfl ⟨_, rfl, gno hz⟩ ?_
                    refine JA.takeno 5 (listed' := [true,true,true,true,true,true,false,false,false,false,false,false,false,false,false,false,false,false,false,false,false,false,false,false,false,false,false,false,false,false,false,false,false]) rfl (by kernel_rfl) (by kernel_rfl) (by kernel_rfl) rfl ⟨_, rfl, gno hz⟩ ?_
                    refine JA.take 6 (listed' := [true,true,true,true,true,true,true,false,false,false,false,false,false,false,false,false,false,false,false,false,false,false,false,false,false,false,false,false,false,false,false,false,false]) rfl (by kernel_rfl) (by kernel_rfl) (by kernel_rfl) rfl trivial (fun w => RX.pick_f rfl hz) ?_
                    refine JA.take 7 (listed' := [true,true,true,true,true,true,true,true,false,false,false,false,false,false,false,false,false,false,false,false,false,false,false,false,false,false,false,false,false,false,false,false,false]) rfl (by kernel_rfl) (by kernel_rfl) (by kernel_rfl) rfl trivial (fun w => RX.movev (v := Value.bool _) rfl) ?_
                    refine JA.take 8 (listed' := [true,true,true,true,true,true,true,true,true,false,false,false,false,false,false,false,false,false,false,false,false,false,false,false,false,false,false,false,false,false,false,false,false]) rfl (by kernel_rfl) (by kernel_rfl) (by kernel_rfl) rfl ⟨_, rfl, rfl⟩ (fun w => RX.movev (v := Value.int _ _) rfl) ?_
                    refine JA.take 9 (listed' := [true,true,true,true,true,true,true,true,true,true,false,false,false,false,false,false,false,false,false,false,false,false,false,false,false,false,false,false,false,false,false,false,false]) rfl (by kernel_rfl) (by kernel_rfl) (by kernel_rfl) rfl ⟨_, rfl, rfl⟩ (fun w => RX.movev (v := Value.int _ _) rfl) ?_
                    refine JA.take 10 (listed' := [true,true,true,true,true,true,true,true,true,true,true,false,false,false,false,false,false,false,false,false,false,false,false,false,false,false,false,false,false,false,false,false,false]) rfl (by kernel_rfl) (by kernel_rfl) (by kernel_rfl) rfl ⟨_, rfl, rfl⟩ (fun w => RX.lt rfl rfl) ?_
                    refine JA.take 11 (listed' := [true,true,true,true,true,true,true,true,true,true,true,true,false,false,false,false,false,false,false,false,false,false,false,false,false,false,false,false,false,false,false,false,false]) rfl (by kernel_rfl) (by kernel_rfl) (by kernel_rfl) rfl trivial (fun w => RX.pick_f rfl rfl) ?_
                    refine JA.take 12 (listed' := [true,true,true,true,true,true,true,true,true,true,true,true,true,false,false,false,false,false,false,false,false,false,false,false,false,false,false,false,false,false,false,false,false]) rfl (by kernel_rfl) (by kernel_rfl) (by kernel_rfl) rfl trivial (fun w => RX.movev (v := Value.bool _) rfl) ?_
                    refine JA.take 13 (listed' := [true,true,true,true,true,true,true,true,true,true,true,true,true,true,false,false,false,false,false,false,false,false,false,false,false,false,false,false,false,false,false,false,false]) rfl (by kernel_rfl) (by kernel_rfl) (by kernel_rfl) rfl ⟨_, rfl, (decide_eq_false (by omega))⟩ (fun w => RX.movev (v := Value.int _ _) rfl) ?_
                    refine JA.take 14 (listed' := [true,true,true,true,true,true,true,true,true,true,true,true,true,true,true,false,false,false,false,false,false,false,false,false,false,false,false,false,false,false,false,false,false]) rfl (by kernel_rfl) (by kernel_rfl) (by kernel_rfl) rfl ⟨_, rfl, (decide_eq_false (by omega))⟩ (fun w => RX.movev (v := Value.slice _ _ _) rfl) ?_
                    refine JA.take 15 (listed' := [true,true,true,true,true,true,true,true,true,true,true,true,true,true,true,true,false,false,false,false,false,false,false,false,false,false,false,false,false,false,false,false,false]) rfl (by kernel_rfl) (by kernel_rfl) (by kernel_rfl) rfl ⟨_, rfl, (decide_eq_false (by omega))⟩ (fun w => RX.len_slice rfl (by rw [sl26]; rfl) rfl) ?_
                    refine JA.take 16 (listed' := [true,true,true,true,true,true,true,true,true,true,true,true,true,true,true,true,true,false,false,false,false,false,false,false,false,false,false,false,false,false,false,false,false]) rfl (by kernel_rfl) (by kernel_rfl) (by kernel_rfl) rfl ⟨_, rfl, (decide_eq_false (by omega))⟩ (fun w => RX.gt rfl rfl) ?_
                    refine JA.take 17 (listed' := [true,true,true,true,true,true,true,true,true,true,true,true,true,true,true,true,true,true,false,false,false,false,false,false,false,false,false,false,false,false,false,false,false]) rfl (by kernel_rfl) (by kernel_rfl) (by kernel_rfl) rfl trivial (fun w => RX.pick_f rfl (decide_eq_false (by omega))) ?_
                    refine JA.take 18 (listed' := [true,true,true,true,true,true,true,true,true,true,true,true,true,true,true,true,true,true,true,false,false,false,false,false,false,false,false,false,false,false,false,false,false]) rfl (by kernel_rfl) (by kernel_rfl) (by kernel_rfl) rfl trivial (fun w => RX.movev (v := Value.bool _) rfl) ?_
                    refine JA.take 19 (listed' := [true,true,true,true,true,true,true,true,true,true,true,true,true,true,true,true,true,true,true,true,false,false,false,false,false,false,false,false,false,false,false,false,false]) rfl (by kernel_rfl) (by kernel_rfl) (by kernel_rfl) rfl ⟨_, rfl, (decide_eq_false (by omega))⟩ (fun w => RX.movev (v := errV E e) rfl) ?_
                    refine JA.take 20 (listed' := [true,true,true,true,true,true,true,true,true,true,true,true,true,true,true,true,true,true,true,true,true,false,false,false,false,false,false,false,false,false,false,false,false]) rfl (by kernel_rfl) (by kernel_rfl) (by kernel_rfl) rfl ⟨_, rfl, (decide_eq_false (by omega))⟩ (fun w => RX.ifnil_eql (v := errV E e) rfl rfl hie if40) ?_
                    refine JA.take 21 (listed' := [true,true,true,true,true,true,true,true,true,true,true,true,true,true,true,true,true,true,true,true,true,true,false,false,false,false,false,false,false,false,false,false,false]) rfl (by kernel_rfl) (by kernel_rfl) (by kernel_rfl) rfl ⟨_, rfl, (decide_eq_false (by omega))⟩ (fun w => RX.movev (v := Value.bool _) rfl) ?_
                    refine JA.take 22 (listed' := [true,true,true,true,true,true,true,true,true,true,true,true,true,true,true,true,true,true,true,true,true,true,true,false,false,false,false,false,false,false,false,false,false]) rfl (by kernel_rfl) (by kernel_rfl) (by kernel_rfl) rfl ⟨_, rfl, hz2⟩ (fun w => RX.movev (v := Value.pointer _) rfl) ?_
                    refine JA.take 25 (listed' := [true,true,true,true,true,true,true,true,true,true,true,true,true,true,true,true,true,true,true,true,true,true,true,false,false,true,false,false,false,false,false,false,false]) rfl (by kernel_rfl) (by kernel_rfl) (by kernel_rfl) rfl ⟨_, rfl, hz2⟩ (fun w => RX.movev (v := Value.slice _ _ _) rfl) ?_
                    refine JA.take 26 (listed' := [true,true,true,true,true,true,true,true,true,true,true,true,true,true,true,true,true,true,true,true,true,true,true,false,false,true,true,false,false,false,false,false,false]) rfl (by kernel_rfl) (by kernel_rfl) (by kernel_rfl) rfl ⟨_, rfl, hz2⟩ (fun w => RX.movev (v := Value.int _ _) rfl) ?_
                    refine JA.take 27 (listed' := [true,true,true,true,true,true,true,true,true,true,true,true,true,true,true,true,true,true,true,true,true,true,true,false,false,true,true,true,false,false,false,false,false]) rfl (by kernel_rfl) (by kernel_rfl) (by kernel_rfl) rfl ⟨_, rfl, hz2⟩ (fun w => RX.movev (v := Value.int _ _) rfl) ?_
                    refine JA.take 28 (listed' := [true,true,true,true,true,true,true,true,true,true,true,true,true,true,true,true,true,true,true,true,true,true,true,false,false,true,true,true,true,false,false,false,false]) rfl (by kernel_rfl) (by kernel_rfl) (by kernel_rfl) rfl ⟨_, rfl, hz2⟩ (fun w => RX.slice_lh2 rfl rfl rfl sl26 (fun a ha => (hsp a ha).imp id (fun h => by omega)) (by omega) (by omega) (by omega) (r := at_) (s := at_ + k) rfl rfl) ?_
                    refine JA.all [23, 29] (by kernel_rfl) (by decide) ?_
                    refine ⟨?_, ?_⟩
                    · skip
                      refine JO.does (listed' := [true,true,true,true,true,true,true,true,true,true,true,true,true,true,true,true,true,true,true,true,true,true,true,true,false,true,true,true,true,false,false,false,false]) rfl rfl ⟨_, rfl, hz2⟩ (EX.call rfl cl12 rfl ((out_w H ho (by omega)))) ?_
                      rintro _ w ⟨q, qc, qs, rfl, hoq, H⟩
                      refine JA.all [24, 29] (by kernel_rfl) (by decide) ?_
                      refine ⟨?_, ?_⟩
                      · skip
                        refine JO.go (listed' := [true,true,true,true,true,true,true,true,true,true,true,true,true,true,true,true,true,true,true,true,true,true,true,true,true,true,true,true,true,false,false,false,false]) rfl rfl ⟨_, rfl, hz2⟩ (RX.b2s (l := ys) H rfl hoq.slAt sl26 ud5 ud9) ?_
                        refine JA.all [29] (by kernel_rfl) (by decide) ?_
                        rw [show at_ + k - at_ = ((bs.drop at_).take k).length by rw [List.length_take, List.length_drop]; omega]
                        refine JO.go (listed' := [true,true,true,true,true,true,true,true,true,true,true,true,true,true,true,true,true,true,true,true,true,true,true,true,true,true,true,true,true,true,false,false,false]) rfl rfl ⟨_, rfl, hz2⟩ (RX.b2s (l := (bs.drop at_).take k) H rfl (by first | exact hslice.cons.cons.cons.cons.cons.cons | exact hslice.cons.cons.cons.cons.cons) sl26 ud5 ud9) ?_
                        refine JA.take 30 (listed' := [true,true,true,true,true,true,true,true,true,true,true,true,true,true,true,true,true,true,true,true,true,true,true,true,true,true,true,true,true,true,true,false,false]) rfl (by kernel_rfl) (by kernel_rfl) (by kernel_rfl) rfl ⟨_, rfl, hz2⟩ (fun w => RX.str_neq rfl rfl) ?_
                        refine JA.take 31 (listed' := [true,true,true,true,true,true,true,true,true,true,true,true,true,true,true,true,true,true,true,true,true,true,true,true,true,true,true,true,true,true,true,true,false]) rfl (by kernel_rfl) (by kernel_rfl) (by kernel_rfl) rfl ⟨_, rfl, (decide_eq_false (by omega))⟩ (fun w => RX.pick_t rfl hz2) ?_
                        refine JA.take 32 (listed' := [true,true,true,true,true,true,true,true,true,true,true,true,true,true,true,true,true,true,true,true,true,true,true,true,true,true,true,true,true,true,true,true,true]) rfl (by kernel_rfl) (by kernel_rfl) (by kernel_rfl) rfl trivial (fun w => RX.pick_f rfl (decide_eq_false (by omega))) ?_
                        refine JA.done (by kernel_rfl) ?_
                        refine J.cond_f rfl (by first | rfl | exact hz2 | (subst hyk; exact decide_eq_false (fun h => h rfl))) ?_
                        refine J.skip ?_
                        refine J.inBlock ?_
                        refine J.region ?_
                        refine JL.go trivial (RX.add rfl rfl (w_i64 rfl (by omega) (by omega))) ?_
                        refine JL.go trivial (RX.movev (v := Value.int _ _) rfl) ?_
                        refine JL.nil ?_
                        first
                        | exact IH (i + 1, at_ + k) _ _ (by simp only; omega) ⟨rfl, rfl, rfl, rfl, trivial⟩ ⟨rfl, trivial⟩ ⟨by simp only; omega, by simp only; omega, H.drop.drop.drop⟩
                        | exact IH (i + 1, at_ + k) _ _ (by simp only; omega) ⟨rfl, rfl, rfl, rfl, trivial⟩ ⟨rfl, trivial⟩ ⟨by simp only; omega, by simp only; omega, H.drop.drop⟩
                        | exact IH (i + 1, at_) _ _ (by simp only; omega) ⟨rfl, rfl, rfl, rfl, trivial⟩ ⟨rfl, trivial⟩ ⟨by simp only; omega, hat, H.drop.drop⟩
                      · skip
                        rw [show at_ + k - at_ = ((bs.drop at_).take k).length by rw [List.length_take, List.length_drop]; omega]
                        refine JO.go (listed' := [true,true,true,true,true,true,true,true,true,true,true,true,true,true,true,true,true,true,true,true,true,true,true,true,false,true,true,true,true,true,false,false,false]) rfl rfl ⟨_, rfl, hz2⟩ (RX.b2s (l := (bs.drop at_).take k) H rfl (by first | exact hslice.cons.cons.cons.cons.cons.cons | exact hslice.cons.cons.cons.cons.cons) sl26 ud5 ud9) ?_
                        refine JA.all [24] (by kernel_rfl) (by decide) ?_
                        refine JO.go (listed' := [true,true,true,true,true,true,true,true,true,true,true,true,true,true,true,true,true,true,true,true,true,true,true,true,true,true,true,true,true,true,false,false,false]) rfl rfl ⟨_, rfl, hz2⟩ (RX.b2s (l := ys) H rfl hoq.slAt sl26 ud5 ud9) ?_
                        refine JA.take 30 (listed' := [true,true,true,true,true,true,true,true,true,true,true,true,true,true,true,true,true,true,true,true,true,true,true,true,true,true,true,true,true,true,true,false,false]) rfl (by kernel_rfl) (by kernel_rfl) (by kernel_rfl) rfl ⟨_, rfl, hz2⟩ (fun w => RX.str_neq rfl rfl) ?_
                        refine JA.take 31 (listed' := [true,true,true,true,true,true,true,true,true,true,true,true,true,true,true,true,true,true,true,true,true,true,true,true,true,true,true,true,true,true,true,true,false]) rfl (by kernel_rfl) (by kernel_rfl) (by kernel_rfl) rfl ⟨_, rfl, (decide_eq_false (by omega))⟩ (fun w => RX.pick_t rfl hz2) ?_
                        refine JA.take 32 (listed' := [true,true,true,true,true,true,true,true,true,true,true,true,true,true,true,true,true,true,true,true,true,true,true,true,true,true,true,true,true,true,true,true,true]) rfl (by kernel_rfl) (by kernel_rfl) (by kernel_rfl) rfl trivial (fun w => RX.pick_f rfl (decide_eq_false (by omega))) ?_
                        refine JA.done (by kernel_rfl) ?_
                        refine J.cond_f rfl (by first | rfl | exact hz2 | (subst hyk; exact decide_eq_false (fun h => h rfl))) ?_
                        refine J.skip ?_
                        refine J.inBlock ?_
                        refine J.region ?_
                        refine JL.go trivial (RX.add rfl rfl (w_i64 rfl (by omega) (by omega))) ?_
                        refine JL.go trivial (RX.movev (v := Value.int _ _) rfl) ?_
                        refine JL.nil ?_
                        first
                        | exact IH (i + 1, at_ + k) _ _ (by simp only; omega) ⟨rfl, rfl, rfl, rfl, trivial⟩ ⟨rfl, trivial⟩ ⟨by simp only; omega, by simp only; omega, H.drop.drop.drop⟩
                        | exact IH (i + 1, at_ + k) _ _ (by simp only; omega) ⟨rfl, rfl, rfl, rfl, trivial⟩ ⟨rfl, trivial⟩ ⟨by simp only; omega, by simp only; omega, H.drop.drop⟩
                        | exact IH (i + 1, at_) _ _ (by simp only; omega) ⟨rfl, rfl, rfl, rfl, trivial⟩ ⟨rfl, trivial⟩ ⟨by simp only; omega, hat, H.drop.drop⟩
                    · skip
                      rw [show at_ + k - at_ = ((bs.drop at_).take k).length by rw [List.length_take, List.length_drop]; omega]
                      refine JO.go (listed' := [true,true,true,true,true,true,true,true,true,true,true,true,true,true,true,true,true,true,true,true,true,true,true,false,false,true,true,true,true,true,false,false,false]) rfl rfl ⟨_, rfl, hz2⟩ (RX.b2s (l := (bs.drop at_).take k) H rfl (by first | exact hslice.cons.cons.cons.cons.cons.cons | exact hslice.cons.cons.cons.cons.cons) sl26 ud5 ud9) ?_
                      refine JA.all [23] (by kernel_rfl) (by decide) ?_
                      refine JO.does (listed' := [true,true,true,true,true,true,true,true,true,true,true,true,true,true,true,true,true,true,true,true,true,true,true,true,false,true,true,true,true,true,false,false,false]) rfl rfl ⟨_, rfl, hz2⟩ (EX.call rfl cl12 rfl ((out_w H ho (by omega)))) ?_
                      rintro _ w ⟨q, qc, qs, rfl, hoq, H⟩
                      refine JA.all [24] (by kernel_rfl) (by decide) ?_
                      refine JO.go (listed' := [true,true,true,true,true,true,true,true,true,true,true,true,true,true,true,true,true,true,true,true,true,true,true,true,true,true,true,true,true,true,false,false,false]) rfl rfl ⟨_, rfl, hz2⟩ (RX.b2s (l := ys) H rfl hoq.slAt sl26 ud5 ud9) ?_
                      refine JA.take 30 (listed' := [true,true,true,true,true,true,true,true,true,true,true,true,true,true,true,true,true,true,true,true,true,true,true,true,true,true,true,true,true,true,true,false,false]) rfl (by kernel_rfl) (by kernel_rfl) (by kernel_rfl) rfl ⟨_, rfl, hz2⟩ (fun w => RX.str_neq rfl rfl) ?_
                      refine JA.take 31 (listed' := [true,true,true,true,true,true,true,true,true,true,true,true,true,true,true,true,true,true,true,true,true,true,true,true,true,true,true,true,true,true,true,true,false]) rfl (by kernel_rfl) (by kernel_rfl) (by kernel_rfl) rfl ⟨_, rfl, (decide_eq_false (by omega))⟩ (fun w => RX.pick_t rfl hz2) ?_
                      refine JA.take 32 (listed' := [true,true,true,true,true,true,true,true,true,true,true,true,true,true,true,true,true,true,true,true,true,true,true,true,true,true,true,true,true,true,true,true,true]) rfl (by kernel_rfl) (by kernel_rfl) (by kernel_rfl) rfl trivial (fun w => RX.pick_f rfl (decide_eq_false (by omega))) ?_
                      refine JA.done (by kernel_rfl) ?_
                      refine J.cond_f rfl (by first | rfl | exact hz2 | (subst hyk; exact decide_eq_false (fun h => h rfl))) ?_
                      refine J.skip ?_
                      refine J.inBlock ?_
                      refine J.region ?_
                      refine JL.go trivial (RX.add rfl rfl (w_i64 rfl (by omega) (by omega))) ?_
                      refine JL.go trivial (RX.movev (v := Value.int _ _) rfl) ?_
                      refine JL.nil ?_
                      first
                      | exact IH (i + 1, at_ + k) _ _ (by simp only; omega) ⟨rfl, rfl, rfl, rfl, trivial⟩ ⟨rfl, trivial⟩ ⟨by simp only; omega, by simp only; omega, H.drop.drop.drop⟩
                      | exact IH (i + 1, at_ + k) _ _ (by simp only; omega) ⟨rfl, rfl, rfl, rfl, trivial⟩ ⟨rfl, trivial⟩ ⟨by simp only; omega, by simp only; omega, H.drop.drop⟩
                      | exact IH (i + 1, at_) _ _ (by simp only; omega) ⟨rfl, rfl, rfl, rfl, trivial⟩ ⟨rfl, trivial⟩ ⟨by simp only; omega, hat, H.drop.drop⟩
                · skip
                  refine J.seq ?_
                  refine J.region ?_
                  refine JL.go trivial (RX.eq rfl rfl) ?_
                  refine JL.go trivial (RX.assignv (v := Value.bool _) rfl) ?_
                  refine JL.nil ?_
                  refine J.cond_d rfl (fun h7 => ?_) (fun h7 => ?_)
                  · skip
                    refine J.seq ?_
                    refine J.region ?_
                    refine JL.go trivial (RX.movev (v := Value.pointer _) rfl) ?_
                    replace H := (H.pull 3 rfl).pull 3 rfl
                    refine JL.does trivial (EX.call rfl cl36 rfl ((rFloats_c H hor hat (by omega) hE.cons.cons.cons))) ?_
                    rintro _ w ⟨p2, c2, s2, rfl, ho2, H⟩
                    have hsm := rList_len rFl_g (bs.drop at_)
                    obtain ⟨he, hek, hkl, hys⟩ := one_form (d := []) (f := flB) ((rList_good rFl_g (bs.drop at_)).1) (fun a k h => rFls_b h)
                    rw [List.length_drop] at hkl
                    have hok := rFls_ok (bs.drop at_)
                    generalize hee : (rList rFl (bs.drop at_)).code = e at he hek hys ⊢
                    generalize hkk : (rList rFl (bs.drop at_)).k = k at hek hkl hys H
                    generalize hll : (rList rFl (bs.drop at_)).val [] = zs at hsm hok hys ho2 ⊢
                    clear hee hkk hll
                    refine JL.go trivial (RX.movev (v := Value.tuple _) rfl) ?_
                    refine JL.go trivial (RX.extract rfl rfl) ?_
                    refine JL.go trivial (RX.extract (v := errV E e) rfl rfl) ?_
                    refine JL.go trivial (RX.assignv (v := Value.slice _ _ _) rfl) ?_
                    refine JL.go trivial (RX.assignv (v := errV E e) rfl) ?_
                    refine JL.nil ?_
                    refine J.seq ?_
                    refine J.region ?_
                    refine JL.go trivial (RX.movev (v := errV E e) rfl) ?_
                    refine JL.go trivial (RX.assignv (v := errV E e) rfl) ?_
                    refine JL.nil ?_
                    refine J.seq ?_
                    refine J.region ?_
                    refine JL.go trivial (RX.movev (v := Value.pointer _) rfl) ?_
                    refine JL.go trivial (RX.movev (v := Value.slice _ _ _) rfl) ?_
                    replace H := (H.pull 4 rfl).pull 4 rfl
                    refine JL.does trivial (EX.call rfl cl37 rfl ((Floats_c (xs := []) ⟨none, 0, [], OwnSl.nil, H⟩ hE.cons.cons.cons.cons.g3 ho2.slAt hok (by omega) (by simp only [List.length_nil]; omega)))) ?_
                    rintro _ w h
                    simp only [if_pos hsm] at h
                    obtain ⟨rfl, p, cp, s, ho, H⟩ := h
                    replace H := (H.pull 2 rfl).drop
                    rw [List.nil_append] at ho H
                    rw [show varint zs.length ++ (zs.map fB).flatten = flB zs from rfl] at ho H
                    generalize flB zs = ys at ho H hys
                    refine JL.go trivial (RX.ifnil_neq rfl rfl rfl if40) ?_
                    refine JL.nil ?_
                    refine J.cond_f rfl rfl ?_
                    refine J.skip ?_
                    refine J.inBlock ?_
                    refine J.seq ?_
                    refine J.region ?_
                    refine JL.go trivial (RX.movev (v := Value.pointer _) rfl) ?_
                    refine JL.does trivial (EX.call rfl cl19 rfl ((at_r (i := 2) H rfl))) ?_
                    rintro _ w ⟨rfl, H⟩
                    refine JL.go trivial (RX.assignv (v := Value.int _ _) rfl) ?_
                    refine JL.nil ?_
                    refine J.seq ?_
                    obtain ⟨hie, hnn⟩ := er_ie hE he
                    refine J.any hmix fun w hs => ?_
                    replace H := H.same hs; clear hs
                    refine JA.take 0 (listed' := [true,false,false,false,false,false,false,false,false,false,false,false,false,false,false,false,false,false,false,false,false,false,false,false,false,false,false,false,false,false,false,false,false]) rfl (by kernel_rfl) (by kernel_rfl) (by kernel_rfl) rfl trivial (fun w => RX.movev (v := errV E e) rfl) ?_
                    refine JA.take 1 (listed' := [true,true,false,false,false,false,false,false,false,false,false,false,false,false,false,false,false,false,false,false,false,false,false,false,false,false,false,false,false,false,false,false,false]) rfl (by kernel_rfl) (by kernel_rfl) (by kernel_rfl) rfl trivial (fun w => RX.ifnil_neq (v := errV E e) rfl rfl hie if40) ?_
                    refine JA.take 2 (listed' := [true,true,true,false,false,false,false,false,false,false,false,false,false,false,false,false,false,false,false,false,false,false,false,false,false,false,false,false,false,false,false,false,false]) rfl (by kernel_rfl) (by kernel_rfl) (by kernel_rfl) rfl trivial (fun w => RX.movev (v := Value.bool _) rfl) ?_
                    refine JA.splitS 152 rfl (fun hz => ?_) (fun hz => ?_)
                    · skip
                      first | have hzp := of_decide_eq_true hz | skip
                      have hz2 : isNil (errV E e) = false := by simpa using hz
                      have he0 : ¬ e = 0 := by intro h; rw [hnn, decide_eq_true h] at hz2; cases hz2
                      have hk0 := hek he0
                      refine JA.take 3 (listed' := [true,true,true,true,false,false,false,false,false,false,false,false,false,false,false,false,false,false,false,false,false,false,false,false,false,false,false,false,false,false,false,false,false]) rfl (by kernel_rfl) (by kernel_rfl) (by kernel_rfl) rfl ⟨_, rfl, hz⟩ (fun w => RX.movev (v := Value.int _ _) rfl) ?_
                      refine JA.take 4 (listed' := [true,true,true,true,true,false,false,false,false,false,false,false,false,false,false,false,false,false,false,false,false,false,false,false,false,false,false,false,false,false,false,false,false]) rfl (by kernel_rfl) (by kernel_rfl) (by kernel_rfl) rfl ⟨_, rfl, hz⟩ (fun w => RX.movev (v := Value.int _ _) rfl) ?_
                      refine JA.take 5 (listed' := [true,true,true,true,true,true,false,false,false,false,false,false,false,false,false,false,false,false,false,false,false,false,false,false,false,false,false,false,false,false,false,false,false]) rfl (by kernel_rfl) (by kernel_rfl) (by kernel_rfl) rfl ⟨_, rfl, hz⟩ (fun w => RX.ne rfl rfl) ?_
                      refine JA.take 6 (listed' := [true,true,true,true,true,true,true,false,false,false,false,false,false,false,false,false,false,false,false,false,false,false,false,false,false,false,false,false,false,false,false,false,false]) rfl (by kernel_rfl) (by kernel_rfl) (by kernel_rfl) rfl trivial (fun w => RX.pick_t rfl hz) ?_
                      refine JA.take 7 (listed' := [true,true,true,true,true,true,true,true,false,false,false,false,false,false,false,false,false,false,false,false,false,false,false,false,false,false,false,false,false,false,false,false,false]) rfl (by kernel_rfl) (by kernel_rfl) (by kernel_rfl) rfl trivial (fun w => RX.movev (v := Value.bool _) rfl) ?_
                      refine JA.take 8 (listed' := [true,true,true,true,true,true,true,true,true,false,false,false,false,false,false,false,false,false,false,false,false,false,false,false,false,false,false,false,false,false,false,false,false]) rfl (by kernel_rfl) (by kernel_rfl) (by kernel_rfl) rfl ⟨_, rfl, (by first | rfl | exact decide_eq_false (by omega))⟩ (fun w => RX.movev (v := Value.int _ _) rfl) ?_
                      refine JA.take 9 (listed' := [true,true,true,true,true,true,true,true,true,true,false,false,false,false,false,false,false,false,false,false,false,false,false,false,false,false,false,false,false,false,false,false,false]) rfl (by kernel_rfl) (by kernel_rfl) (by kernel_rfl) rfl ⟨_, rfl, (by first | rfl | exact decide_eq_false (by omega))⟩ (fun w => RX.movev (v := Value.int _ _) rfl) ?_
                      refine JA.take 10 (listed' := [true,true,true,true,true,true,true,true,true,true,true,false,false,false,false,false,false,false,false,false,false,false,false,false,false,false,false,false,false,false,false,false,false]) rfl (by kernel_rfl) (by kernel_rfl) (by kernel_rfl) rfl ⟨_, rfl, (by first | rfl | exact decide_eq_false (by omega))⟩ (fun w => RX.lt rfl rfl) ?_
                      refine JA.take 11 (listed' := [true,true,true,true,true,true,true,true,true,true,true,true,false,false,false,false,false,false,false,false,false,false,false,false,false,false,false,false,false,false,false,false,false]) rfl (by kernel_rfl) (by kernel_rfl) (by kernel_rfl) rfl trivial (fun w => RX.pick_f rfl (by first | rfl | exact decide_eq_false (by omega))) ?_
                      refine JA.take 12 (listed' := [true,true,true,true,true,true,true,true,true,true,true,true,true,false,false,false,false,false,false,false,false,false,false,false,false,false,false,false,false,false,false,false,false]) rfl (by kernel_rfl) (by kernel_rfl) (by kernel_rfl) rfl trivial (fun w => RX.movev (v := Value.bool _) rfl) ?_
                      refine JA.take 13 (listed' := [true,true,true,true,true,true,true,true,true,true,true,true,true,true,false,false,false,false,false,false,false,false,false,false,false,false,false,false,false,false,false,false,false]) rfl (by kernel_rfl) (by kernel_rfl) (by kernel_rfl) rfl ⟨_, rfl, (decide_eq_false (by omega))⟩ (fun w => RX.movev (v := Value.int _ _) rfl) ?_
                      refine JA.take 14 (listed' := [true,true,true,true,true,true,true,true,true,true,true,true,true,true,true,false,false,false,false,false,false,false,false,false,false,false,false,false,false,false,false,false,false]) rfl (by kernel_rfl) (by kernel_rfl) (by kernel_rfl) rfl ⟨_, rfl, (decide_eq_false (by omega))⟩ (fun w => RX.movev (v := Value.slice _ _ _) rfl) ?_
                      refine JA.take 15 (listed' := [true,true,true,true,true,true,true,true,true,true,true,true,true,true,true,true,false,false,false,false,false,false,false,false,false,false,false,false,false,false,false,false,false]) rfl (by kernel_rfl) (by kernel_rfl) (by kernel_rfl) rfl ⟨_, rfl, (decide_eq_false (by omega))⟩ (fun w => RX.len_slice rfl (by rw [sl26]; rfl) rfl) ?_
                      refine JA.take 16 (listed' := [true,true,true,true,true,true,true,true,true,true,true,true,true,true,true,true,true,false,false,false,false,false,false,false,false,false,false,false,false,false,false,false,false]) rfl (by kernel_rfl) (by kernel_rfl) (by kernel_rfl) rfl ⟨_, rfl, (decide_eq_false (by omega))⟩ (fun w => RX.gt rfl rfl) ?_
                      refine JA.take 17 (listed' := [true,true,true,true,true,true,true,true,true,true,true,true,true,true,true,true,true,true,false,false,false,false,false,false,false,false,false,false,false,false,false,false,false]) rfl (by kernel_rfl) (by kernel_rfl) (by kernel_rfl) rfl trivial (fun w => RX.pick_f rfl (decide_eq_false (by omega))) ?_
                      refine JA.take 18 (listed' := [true,true,true,true,true,true,true,true,true,true,true,true,true,true,true,true,true,true,true,false,false,false,false,false,false,false,false,false,false,false,false,false,false]) rfl (by kernel_rfl) (by kernel_rfl) (by kernel_rfl) rfl trivial (fun w => RX.movev (v := Value.bool _) rfl) ?_
                      refine JA.take 19 (listed' := [true,true,true,true,true,true,true,true,true,true,true,true,true,true,true,true,true,true,true,true,false,false,false,false,false,false,false,false,false,false,false,false,false]) rfl (by kernel_rfl) (by kernel_rfl) (by kernel_rfl) rfl ⟨_, rfl, (decide_eq_false (by omega))⟩ (fun w => RX.movev (v := errV E e) rfl) ?_
                      refine JA.take 20 (listed' := [true,true,true,true,true,true,true,true,true,true,true,true,true,true,true,true,true,true,true,true,true,false,false,false,false,false,false,false,false,false,false,false,false]) rfl (by kernel_rfl) (by kernel_rfl) (by kernel_rfl) rfl ⟨_, rfl, (decide_eq_false (by omega))⟩ (fun w => RX.ifnil_eql (v := errV E e) rfl rfl hie if40) ?_
                      refine JA.take 21 (listed' := [true,true,true,true,true,true,true,true,true,true,true,true,true,true,true,true,true,true,true,true,true,true,false,false,false,false,false,false,false,false,false,false,false]) rfl (by kernel_rfl) (by kernel_rfl) (by kernel_rfl) rfl ⟨_, rfl, (decide_eq_false (by omega))⟩ (fun w => RX.movev (v := Value.bool _) rfl) ?_
                      refine JA.takeno 22 (listed' := [true,true,true,true,true,true,true,true,true,true,true,true,true,true,true,true,true,true,true,true,true,true,true,false,false,false,false,false,false,false,false,false,false]) rfl (by kernel_rfl) (by kernel_rfl) (by kernel_rfl) rfl ⟨_, rfl, gno hz2⟩ ?_
                      refine JA.takeno 23 (listed' := [true,true,true,true,true,true,true,true,true,true,true,true,true,true,true,true,true,true,true,true,true,true,true,true,false,false,false,false,false,false,false,false,false]) rfl (by kernel_rfl) (by kernel_rfl) (by kernel_rfl) rfl ⟨_, rfl, gno hz2⟩ ?_
                      refine JA.takeno 24 (listed' := [true,true,true,true,true,true,true,true,true,true,true,true,true,true,true,true,true,true,true,true,true,true,true,true,true,false,false,false,false,false,false,false,false]) rfl (by kernel_rfl) (by kernel_rfl) (by kernel_rfl) rfl ⟨_, rfl, gno hz2⟩ ?_
                      refine JA.takeno 25 (listed' := [true,true,true,true,true,true,true,true,true,true,true,true,true,true,true,true,true,true,true,true,true,true,true,true,true,true,false,false,false,false,false,false,false]) rfl (by kernel_rfl) (by kernel_rfl) (by kernel_rfl) rfl ⟨_, rfl, gno hz2⟩ ?_
                      refine JA.takeno 26 (listed' := [true,true,true,true,true,true,true,true,true,true,true,true,true,true,true,true,true,true,true,true,true,true,true,true,true,true,true,false,false,false,false,false,false]) rfl (by kernel_rfl) (by kernel_rfl) (by kernel_rfl) rfl ⟨_, rfl, gno hz2⟩ ?_
                      refine JA.takeno 27 (listed' := [true,true,true,true,true,true,true,true,true,true,true,true,true,true,true,true,true,true,true,true,true,true,true,true,true,true,true,true,false,false,false,false,false]) rfl (by kernel_rfl) (by kernel_rfl) (by kernel_rfl) rfl ⟨_, rfl, gno hz2⟩ ?_
                      refine JA.takeno 28 (listed' := [true,true,true,true,true,true,true,true,true,true,true,true,true,true,true,true,true,true,true,true,true,true,true,true,true,true,true,true,true,false,false,false,false]) rfl (by kernel_rfl) (by kernel_rfl) (by kernel_rfl) rfl ⟨_, rfl, gno hz2⟩ ?_
                      refine JA.takeno 29 (listed' := [true,true,true,true,true,true,true,true,true,true,true,true,true,true,true,true,true,true,true,true,true,true,true,true,true,true,true,true,true,true,false,false,false]) rfl (by kernel_rfl) (by kernel_rfl) (by kernel_rfl) rfl ⟨_, rfl, gno hz2⟩ ?_
                      refine JA.takeno 30 (listed' := [true,true,true,true,true,true,true,true,true,true,true,true,true,true,true,true,true,true,true,true,true,true,true,true,true,true,true,true,true,true,true,false,false]) rfl (by kernel_rfl) (by kernel_rfl) (by kernel_rfl) rfl ⟨_, rfl, gno hz2⟩ ?_
                      refine JA.take 31 (listed' := [true,true,true,true,true,true,true,true,true,true,true,true,true,true,true,true,true,true,true,true,true,true,true,true,true,true,true,true,true,true,true,true,false]) rfl (by kernel_rfl) (by kernel_rfl) (by kernel_rfl) rfl ⟨_, rfl, (decide_eq_false (by omega))⟩ (fun w => RX.pick_f rfl hz2) ?_
                      refine JA.take 32 (listed' := [true,true,true,true,true,true,true,true,true,true,true,true,true,true,true,true,true,true,true,true,true,true,true,true,true,true,true,true,true,true,true,true,true]) rfl (by kernel_rfl) (by kernel_rfl) (by kernel_rfl) rfl trivial (fun w => RX.pick_f rfl (decide_eq_false (by omega))) ?_
                      refine JA.done (by kernel_rfl) ?_
                      refine J.cond_f rfl (by first | rfl | exact hz2 | (subst hyk; exact decide_eq_false (fun h => h rfl))) ?_
                      refine J.skip ?_
                      refine J.inBlock ?_
                      refine J.region ?_
                      refine JL.go trivial (RX.add rfl rfl (w_i64 rfl (by omega) (by omega))) ?_
                      refine JL.go trivial (RX.movev (v := Value.int _ _) rfl) ?_
                      refine JL.nil ?_
                      first
                      | exact IH (i + 1, at_ + k) _ _ (by simp only; omega) ⟨rfl, rfl, rfl, rfl, trivial⟩ ⟨rfl, trivial⟩ ⟨by simp only; omega, by simp only; omega, H.drop.drop.drop⟩
                      | exact IH (i + 1, at_ + k) _ _ (by simp only; omega) ⟨rfl, rfl, rfl, rfl, trivial⟩ ⟨rfl, trivial⟩ ⟨by simp only; omega, by simp only; omega, H.drop.drop⟩
                      | exact IH (i + 1, at_) _ _ (by simp only; omega) ⟨rfl, rfl, rfl, rfl, trivial⟩ ⟨rfl, trivial⟩ ⟨by simp only; omega, hat, H.drop.drop⟩
                    · skip
                      first | have hzp := of_decide_eq_false hz | skip
                      have hz2 : isNil (errV E e) = true := by simpa using hz
                      have he0 : e = 0 := of_decide_eq_true (hnn.symm.trans hz2)
                      have hyk := hys he0
                      have hyl : ys.length = k := by rw [hyk, List.length_take, List.length_drop]; omega
                      have hslice : SlAt F (behind bp bc at_ 1) (bv ((bs.drop at_).take k)) := by
                        have h := (SlAt.behind (cap := bc) (r := at_) (sz := 1) hbs (by rw [bv_len]; omega)).take (n := k)
                        rw [bv_part] at h
                        exact h
                      refine JA.takeno 3 (listed' := [true,true,true,true,false,false,false,false,false,false,false,false,false,false,false,false,false,false,false,false,false,false,false,false,false,false,false,false,false,false,false,false,false]) rfl (by kernel_rfl) (by kernel_rfl) (by kernel_rfl) rfl ⟨_, rfl, gno hz⟩ ?_
                      refine JA.takeno 4 (listed' := [true,true,true,true,true,false,false,false,false,false,false,false,false,false,false,false,false,false,false,false,false,false,false,false,false,false,false,false,false,false,false,false,false]) rfl (by kernel_rfl) (by kernel_rfl) (by kernel_rfl) rfl ⟨_, rfl, gno hz⟩ ?_
                      refine JA.takeno 5 (listed' := [true,true,true,true,true,true,false,false,false,false,false,false,false,false,false,false,false,false,false,false,false,false,false,false,false,false,false,false,false,false,false,false,false]) rfl (by kernel_rfl) (by kernel_rfl) (by kernel_rfl) rfl ⟨_, rfl, gno hz⟩ ?_
                      refine JA.take 6 (listed' := [true,true,true,true,true,true,true,false,false,false,false,false,false,false,false,false,false,false,false,false,false,false,false,false,false,false,false,false,false,false,false,false,false]) rfl (by kernel_rfl) (by kernel_rfl) (by kernel_rfl) rfl trivial (fun w => RX.pick_f rfl hz) ?_
                      refine JA.take 7 (listed' := [true,true,true,true,true,true,true,true,false,false,false,false,false,false,false,false,false,false,false,false,false,false,false,false,false,false,false,false,false,false,false,false,false]) rfl (by kernel_rfl) (by kernel_rfl) (by kernel_rfl) rfl trivial (fun w => RX.movev (v := Value.bool _) rfl) ?_
                      refine JA.take 8 (listed' := [true,true,true,true,true,true,true,true,true,false,false,false,false,false,false,false,false,false,false,false,false,false,false,false,false,false,false,false,false,false,false,false,false]) rfl (by kernel_rfl) (by kernel_rfl) (by kernel_rfl) rfl ⟨_, rfl, rfl⟩ (fun w => RX.movev (v := Value.int _ _) rfl) ?_
                      refine JA.take 9 (listed' := [true,true,true,true,true,true,true,true,true,true,false,false,false,false,false,false,false,false,false,false,false,false,false,false,false,false,false,false,false,false,false,false,false]) rfl (by kernel_rfl) (by kernel_rfl) (by kernel_rfl) rfl ⟨_, rfl, rfl⟩ (fun w => RX.movev (v := Value.int _ _) rfl) ?_
                      refine JA.take 10 (listed' := [true,true,true,true,true,true,true,true,true,true,true,false,false,false,false,false,false,false,false,false,false,false,false,false,false,false,false,false,false,false,false,false,false]) rfl (by kernel_rfl) (by kernel_rfl) (by kernel_rfl) rfl ⟨_, rfl, rfl⟩ (fun w => RX.lt rfl rfl) ?_
                      refine JA.take 11 (listed' := [true,true,true,true,true,true,true,true,true,true,true,true,false,false,false,false,false,false,false,false,false,false,false,false,false,false,false,false,false,false,false,false,false]) rfl (by kernel_rfl) (by kernel_rfl) (by kernel_rfl) rfl trivial (fun w => RX.pick_f rfl rfl) ?_
                      refine JA.take 12 (listed' := [true,true,true,true,true,true,true,true,true,true,true,true,true,false,false,false,false,false,false,false,false,false,false,false,false,false,false,false,false,false,false,false,false]) rfl (by kernel_rfl) (by kernel_rfl) (by kernel_rfl) rfl trivial (fun w => RX.movev (v := Value.bool _) rfl) ?_
                      refine JA.take 13 (listed' := [true,true,true,true,true,true,true,true,true,true,true,true,true,true,false,false,false,false,false,false,false,false,false,false,false,false,false,false,false,false,false,false,false]) rfl (by kernel_rfl) (by kernel_rfl) (by kernel_rfl) rfl ⟨_, rfl, (decide_eq_false (by omega))⟩ (fun w => RX.movev (v := Value.int _ _) rfl) ?_
                      refine JA.take 14 (listed' := [true,true,true,true,true,true,true,true,true,true,true,true,true,true,true,false,false,false,false,false,false,false,false,false,false,false,false,false,false,false,false,false,false]) rfl (by kernel_rfl) (by kernel_rfl) (by kernel_rfl) rfl ⟨_, rfl, (decide_eq_false (by omega))⟩ (fun w => RX.movev (v := Value.slice _ _ _) rfl) ?_
                      refine JA.take 15 (listed' := [true,true,true,true,true,true,true,true,true,true,true,true,true,true,true,true,false,false,false,false,false,false,false,false,false,false,false,false,false,false,false,false,false]) rfl (by kernel_rfl) (by kernel_rfl) (by kernel_rfl) rfl ⟨_, rfl, (decide_eq_false (by omega))⟩ (fun w => RX.len_slice rfl (by rw [sl26]; rfl) rfl) ?_
                      refine JA.take 16 (listed' := [true,true,true,true,true,true,true,true,true,true,true,true,true,true,true,true,true,false,false,false,false,false,false,false,false,false,false,false,false,false,false,false,false]) rfl (by kernel_rfl) (by kernel_rfl) (by kernel_rfl) rfl ⟨_, rfl, (decide_eq_false (by omega))⟩ (fun w => RX.gt rfl rfl) ?_
                      refine JA.take 17 (listed' := [true,true,true,true,true,true,true,true,true,true,true,true,true,true,true,true,true,true,false,false,false,false,false,false,false,false,false,false,false,false,false,false,false]) rfl (by kernel_rfl) (by kernel_rfl) (by kernel_rfl) rfl trivial (fun w => RX.pick_f rfl (decide_eq_false (by omega))) ?_
                      refine JA.take 18 (listed' := [true,true,true,true,true,true,true,true,true,true,true,true,true,true,true,true,true,true,true,false,false,false,false,false,false,false,false,false,false,false,false,false,false]) rfl (by kernel_rfl) (by kernel_rfl) (by kernel_rfl) rfl trivial (fun w => RX.movev (v := Value.bool _) rfl) ?_
                      refine JA.take 19 (listed' := [true,true,true,true,true,true,true,true,true,true,true,true,true,true,true,true,true,true,true,true,false,false,false,false,false,false,false,false,false,false,false,false,false]) rfl (by kernel_rfl) (by kernel_rfl) (by kernel_rfl) rfl ⟨_, rfl, (decide_eq_false (by omega))⟩ (fun w => RX.movev (v := errV E e) rfl) ?_
                      refine JA.take 20 (listed' := [true,true,true,true,true,true,true,true,true,true,true,true,true,true,true,true,true,true,true,true,true,false,false,false,false,false,false,false,false,false,false,false,false]) rfl (by kernel_rfl) (by kernel_rfl) (by kernel_rfl) rfl ⟨_, rfl, (decide_eq_false (by omega))⟩ (fun w => RX.ifnil_eql (v := errV E e) rfl rfl hie if40) ?_
                      refine JA.take 21 (listed' := [true,true,true,true,true,true,true,true,true,true,true,true,true,true,true,true,true,true,true,true,true,true,false,false,false,false,false,false,false,false,false,false,false]) rfl (by kernel_rfl) (by kernel_rfl) (by kernel_rfl) rfl ⟨_, rfl, (decide_eq_false (by omega))⟩ (fun w => RX.movev (v := Value.bool _) rfl) ?_
                      refine JA.take 22 (listed' := [true,true,true,true,true,true,true,true,true,true,true,true,true,true,true,true,true,true,true,true,true,true,true,false,false,false,false,false,false,false,false,false,false]) rfl (by kernel_rfl) (by kernel_rfl) (by kernel_rfl) rfl ⟨_, rfl, hz2⟩ (fun w => RX.movev (v := Value.pointer _) rfl) ?_
                      refine JA.take 25 (listed' := [true,true,true,true,true,true,true,true,true,true,true,true,true,true,true,true,true,true,true,true,true,true,true,false,false,true,false,false,false,false,false,false,false]) rfl (by kernel_rfl) (by kernel_rfl) (by kernel_rfl) rfl ⟨_, rfl, hz2⟩ (fun w => RX.movev (v := Value.slice _ _ _) rfl) ?_
                      refine JA.take 26 (listed' := [true,true,true,true,true,true,true,true,true,true,true,true,true,true,true,true,true,true,true,true,true,true,true,false,false,true,true,false,false,false,false,false,false]) rfl (by kernel_rfl) (by kernel_rfl) (by kernel_rfl) rfl ⟨_, rfl, hz2⟩ (fun w => RX.movev (v := Value.int _ _) rfl) ?_
                      refine JA.take 27 (listed' := [true,true,true,true,true,true,true,true,true,true,true,true,true,true,true,true,true,true,true,true,true,true,true,false,false,true,true,true,false,false,false,false,false]) rfl (by kernel_rfl) (by kernel_rfl) (by kernel_rfl) rfl ⟨_, rfl, hz2⟩ (fun w => RX.movev (v := Value.int _ _) rfl) ?_
                      refine JA.take 28 (listed' := [true,true,true,true,true,true,true,true,true,true,true,true,true,true,true,true,true,true,true,true,true,true,true,false,false,true,true,true,true,false,false,false,false]) rfl (by kernel_rfl) (by kernel_rfl) (by kernel_rfl) rfl ⟨_, rfl, hz2⟩ (fun w => RX.slice_lh2 rfl rfl rfl sl26 (fun a ha => (hsp a ha).imp id (fun h => by omega)) (by omega) (by omega) (by omega) (r := at_) (s := at_ + k) rfl rfl) ?_
                      refine JA.all [23, 29] (by kernel_rfl) (by decide) ?_
                      refine ⟨?_, ?_⟩
                      · skip
                        refine JO.does (listed' := [true,true,true,true,true,true,true,true,true,true,true,true,true,true,true,true,true,true,true,true,true,true,true,true,false,true,true,true,true,false,false,false,false]) rfl rfl ⟨_, rfl, hz2⟩ (EX.call rfl cl12 rfl ((out_w H ho (by omega)))) ?_
                        rintro _ w ⟨q, qc, qs, rfl, hoq, H⟩
                        refine JA.all [24, 29] (by kernel_rfl) (by decide) ?_
                        refine ⟨?_, ?_⟩
                        · skip
                          refine JO.go (listed' := [true,true,true,true,true,true,true,true,true,true,true,true,true,true,true,true,true,true,true,true,true,true,true,true,true,true,true,true,true,false,false,false,false]) rfl rfl ⟨_, rfl, hz2⟩ (RX.b2s (l := ys) H rfl hoq.slAt sl26 ud5 ud9) ?_
                          refine JA.all [29] (by kernel_rfl) (by decide) ?_
                          rw [show at_ + k - at_ = ((bs.drop at_).take k).length by rw [List.length_take, List.length_drop]; omega]
                          refine JO.go (listed' := [true,true,true,true,true,true,true,true,true,true,true,true,true,true,true,true,true,true,true,true,true,true,true,true,true,true,true,true,true,true,false,false,false]) rfl rfl ⟨_, rfl, hz2⟩ (RX.b2s (l := (bs.drop at_).take k) H rfl (by first | exact hslice.cons.cons.cons.cons.cons.cons | exact hslice.cons.cons.cons.cons.cons) sl26 ud5 ud9) ?_
                          refine JA.take 30 (listed' := [true,true,true,true,true,true,true,true,true,true,true,true,true,true,true,true,true,true,true,true,true,true,true,true,true,true,true,true,true,true,true,false,false]) rfl (by kernel_rfl) (by kernel_rfl) (by kernel_rfl) rfl ⟨_, rfl, hz2⟩ (fun w => RX.str_neq rfl rfl) ?_
                          refine JA.take 31 (listed' := [true,true,true,true,true,true,true,true,true,true,true,true,true,true,true,true,true,true,true,true,true,true,true,true,true,true,true,true,true,true,true,true,false]) rfl (by kernel_rfl) (by kernel_rfl) (by kernel_rfl) rfl ⟨_, rfl, (decide_eq_false (by omega))⟩ (fun w => RX.pick_t rfl hz2) ?_
                          refine JA.take 32 (listed' := [true,true,true,true,true,true,true,true,true,true,true,true,true,true,true,true,true,true,true,true,true,true,true,true,true,true,true,true,true,true,true,true,true]) rfl (by kernel_rfl) (by kernel_rfl) (by kernel_rfl) rfl trivial (fun w => RX.pick_f rfl (decide_eq_false (by omega))) ?_
                          refine JA.done (by kernel_rfl) ?_
                          refine J.cond_f rfl (by first | rfl | exact hz2 | (subst hyk; exact decide_eq_false (fun h => h rfl))) ?_
                          refine J.skip ?_
                          refine J.inBlock ?_
                          refine J.region ?_
                          refine JL.go trivial (RX.add rfl rfl (w_i64 rfl (by omega) (by omega))) ?_
                          refine JL.go trivial (RX.movev (v := Value.int _ _) rfl) ?_
                          refine JL.nil ?_
                          first
                          | exact IH (i + 1, at_ + k) _ _ (by simp only; omega) ⟨rfl, rfl, rfl, rfl, trivial⟩ ⟨rfl, trivial⟩ ⟨by simp only; omega, by simp only; omega, H.drop.drop.drop⟩
                          | exact IH (i + 1, at_ + k) _ _ (by simp only; omega) ⟨rfl, rfl, rfl, rfl, trivial⟩ ⟨rfl, trivial⟩ ⟨by simp only; omega, by simp only; omega, H.drop.drop⟩
                          | exact IH (i + 1, at_) _ _ (by simp only; omega) ⟨rfl, rfl, rfl, rfl, trivial⟩ ⟨rfl, trivial⟩ ⟨by simp only; omega, hat, H.drop.drop⟩
                        · skip
                          rw [show at_ + k - at_ = ((bs.drop at_).take k).length by rw [List.length_take, List.length_drop]; omega]
                          refine JO.go (listed' := [true,true,true,true,true,true,true,true,true,true,true,true,true,true,true,true,true,true,true,true,true,true,true,true,false,true,true,true,true,true,false,false,false]) rfl rfl ⟨_, rfl, hz2⟩ (RX.b2s (l := (bs.drop at_).take k) H rfl (by first | exact hslice.cons.cons.cons.cons.cons.cons | exact hslice.cons.cons.cons.cons.cons) sl26 ud5 ud9) ?_
                          refine JA.all [24] (by kernel_rfl) (by decide) ?_
                          refine JO.go (listed' := [true,true,true,true,true,true,true,true,true,true,true,true,true,true,true,true,true,true,true,true,true,true,true,true,true,true,true,true,true,true,false,false,false]) rfl rfl ⟨_, rfl, hz2⟩ (RX.b2s (l := ys) H rfl hoq.slAt sl26 ud5 ud9) ?_
                          refine JA.take 30 (listed' := [true,true,true,true,true,true,true,true,true,true,true,true,true,true,true,true,true,true,true,true,true,true,true,true,true,true,true,true,true,true,true,false,false]) rfl (by kernel_rfl) (by kernel_rfl) (by kernel_rfl) rfl ⟨_, rfl, hz2⟩ (fun w => RX.str_neq rfl rfl) ?_
                          refine JA.take 31 (listed' := [true,true,true,true,true,true,true,true,true,true,true,true,true,true,true,true,true,true,true,true,true,true,true,true,true,true,true,true,true,true,true,true,false]) rfl (by kernel_rfl) (by kernel_rfl) (by kernel_rfl) rfl ⟨_, rfl, (decide_eq_false (by omega))⟩ (fun w => RX.pick_t rfl hz2) ?_
                          refine JA.take 32 (listed' := [true,true,true,true,true,true,true,true,true,true,true,true,true,true,true,true,true,true,true,true,true,true,true,true,true,true,true,true,true,true,true,true,true]) rfl (by kernel_rfl) (by kernel_rfl) (by kernel_rfl) rfl trivial (fun w => RX.pick_f rfl (decide_eq_false (by omega))) ?_
                          refine JA.done (by kernel_rfl) ?_
                          refine J.cond_f rfl (by first | rfl | exact hz2 | (subst hyk; exact decide_eq_false (fun h => h rfl))) ?_
                          refine J.skip ?_
                          refine J.inBlock ?_
                          refine J.region ?_
                          refine JL.go trivial (RX.add rfl rfl (w_i64 rfl (by omega) (by omega))) ?_
                          refine JL.go trivial (RX.movev (v := Value.int _ _) rfl) ?_
                          refine JL.nil ?_
                          first
                          | exact IH (i + 1, at_ + k) _ _ (by simp only; omega) ⟨rfl, rfl, rfl, rfl, trivial⟩ ⟨rfl, trivial⟩ ⟨by simp only; omega, by simp only; omega, H.drop.drop.drop⟩
                          | exact IH (i + 1, at_ + k) _ _ (by simp only; omega) ⟨rfl, rfl, rfl, rfl, trivial⟩ ⟨rfl, trivial⟩ ⟨by simp only; omega, by simp only; omega, H.drop.drop⟩
                          | exact IH (i + 1, at_) _ _ (by simp only; omega) ⟨rfl, rfl, rfl, rfl, trivial⟩ ⟨rfl, trivial⟩ ⟨by simp only; omega, hat, H.drop.drop⟩
                      · skip
                        rw [show at_ + k - at_ = ((bs.drop at_).take k).length by rw [List.length_take, List.length_drop]; omega]
                        refine JO.go (listed' := [true,true,true,true,true,true,true,true,true,true,true,true,true,true,true,true,true,true,true,true,true,true,true,false,false,true,true,true,true,true,false,false,false]) rfl rfl ⟨_, rfl, hz2⟩ (RX.b2s (l := (bs.drop at_).take k) H rfl (by first | exact hslice.cons.cons.cons.cons.cons.cons | exact hslice.cons.cons.cons.cons.cons) sl26 ud5 ud9) ?_
                        refine JA.all [23] (by kernel_rfl) (by decide) ?_
                        refine JO.does (listed' := [true,true,true,true,true,true,true,true,true,true,true,true,true,true,true,true,true,true,true,true,true,true,true,true,false,true,true,true,true,true,false,false,false]) rfl rfl ⟨_, rfl, hz2⟩ (EX.call rfl cl12 rfl ((out_w H ho (by omega)))) ?_
                        rintro _ w ⟨q, qc, qs, rfl, hoq, H⟩
                        refine JA.all [24] (by kernel_rfl) (by decide) ?_
                        refine JO.go (listed' := [true,true,true,true,true,true,true,true,true,true,true,true,true,true,true,true,true,true,true,true,true,true,true,true,true,true,true,true,true,true,false,false,false]) rfl rfl ⟨_, rfl, hz2⟩ (RX.b2s (l := ys) H rfl hoq.slAt sl26 ud5 ud9) ?_
                        refine JA.take 30 (listed' := [true,true,true,true,true,true,true,true,true,true,true,true,true,true,true,true,true,true,true,true,true,true,true,true,true,true,true,true,true,true,true,false,false]) rfl (by kernel_rfl) (by kernel_rfl) (by kernel_rfl) rfl ⟨_, rfl, hz2⟩ (fun w => RX.str_neq rfl rfl) ?_
                        refine JA.take 31 (listed' := [true,true,true,true,true,true,true,true,true,true,true,true,true,true,true,true,true,true,true,true,true,true,true,true,true,true,true,true,true,true,true,true,false]) rfl (by kernel_rfl) (by kernel_rfl) (by kernel_rfl) rfl ⟨_, rfl, (decide_eq_false (by omega))⟩ (fun w => RX.pick_t rfl hz2) ?_
                        refine JA.take 32 (listed' := [true,true,true,true,true,true,true,true,true,true,true,true,true,true,true,true,true,true,true,true,true,true,true,true,true,true,true,true,true,true,true,true,true]) rfl (by kernel_rfl) (by kernel_rfl) (by kernel_rfl) rfl trivial (fun w => RX.pick_f rfl (decide_eq_false (by omega))) ?_
                        refine JA.done (by kernel_rfl) ?_
                        refine J.cond_f rfl (by first | rfl | exact hz2 | (subst hyk; exact decide_eq_false (fun h => h rfl))) ?_
                        refine J.skip ?_
                        refine J.inBlock ?_
                        refine J.region ?_
                        refine JL.go trivial (RX.add rfl rfl (w_i64 rfl (by omega) (by omega))) ?_
                        refine JL.go trivial (RX.movev (v := Value.int _ _) rfl) ?_
                        refine JL.nil ?_
                        first
                        | exact IH (i + 1, at_ + k) _ _ (by simp only; omega) ⟨rfl, rfl, rfl, rfl, trivial⟩ ⟨rfl, trivial⟩ ⟨by simp only; omega, by simp only; omega, H.drop.drop.drop⟩
                        | exact IH (i + 1, at_ + k) _ _ (by simp only; omega) ⟨rfl, rfl, rfl, rfl, trivial⟩ ⟨rfl, trivial⟩ ⟨by simp only; omega, by simp only; omega, H.drop.drop⟩
                        | exact IH (i + 1, at_) _ _ (by simp only; omega) ⟨rfl, rfl, rfl, rfl, trivial⟩ ⟨rfl, trivial⟩ ⟨by simp only; omega, hat, H.drop.drop⟩
                  · skip
                    refine J.exit rfl ?_
                    refine J.region ?_
                    refine JL.go trivial (RX.add rfl rfl (w_i64 rfl (by omega) (by omega))) ?_
                    refine JL.go trivial (RX.movev (v := Value.int _ _) rfl) ?_
                    refine JL.nil ?_
                    first
                    | exact IH (i + 1, at_ + k) _ _ (by simp only; omega) ⟨rfl, rfl, rfl, rfl, trivial⟩ ⟨rfl, trivial⟩ ⟨by simp only; omega, by simp only; omega, H.drop.drop.drop⟩
                    | exact IH (i + 1, at_ + k) _ _ (by simp only; omega) ⟨rfl, rfl, rfl, rfl, trivial⟩ ⟨rfl, trivial⟩ ⟨by simp only; omega, by simp only; omega, H.drop.drop⟩
                    | exact IH (i + 1, at_) _ _ (by simp only; omega) ⟨rfl, rfl, rfl, rfl, trivial⟩ ⟨rfl, trivial⟩ ⟨by simp only; omega, hat, H.drop.drop⟩
  · skip
    refine J.exit rfl ?_
    refine J.seq ?_
    refine J.region ?_
    refine JL.go trivial (RX.assign) ?_
    refine JL.nil ?_
    refine J.ret1 (v := Value.bool _) Tryd.func6 rfl rfl ?_
    exact ⟨_, rfl, rfl, H.drop.drop.drop⟩
end Go.Proofs.YtippfdnjhcpekaaDoor
