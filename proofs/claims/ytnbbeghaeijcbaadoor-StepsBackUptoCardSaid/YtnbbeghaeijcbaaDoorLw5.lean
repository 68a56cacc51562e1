/- The laws of chapter 15: there and back. -/
import Derived.Test.YtnbbeghaeijcbaaDoorLw4
import Derived.Test.YtnbbeghaeijcbaaDoorPl
namespace Go.Proofs.YtnbbeghaeijcbaaDoor
open Go Go.Eng
set_option maxRecDepth 100000
set_option linter.unusedVariables false
set_option linter.unusedSimpArgs false

theorem encOk_ok {p : Prg} (h : encOk p = true) : p.Ok := by
  obtain ⟨hl, hh, hf⟩ := encOk_facts h
  have h0 := hh p.len (by simp [Prg.heads])
  have h1 := hh p.cells (by simp [Prg.heads])
  have h2 := hh p.inn (by simp [Prg.heads])
  have h3 := hh p.out (by simp [Prg.heads])
  exact ⟨by unfold i64ok; omega, by unfold i64ok; omega, by unfold i64ok; omega, by unfold i64ok; omega, fun s hs => (form_bd (hf s hs)).ok, by omega⟩
theorem encO_yes {p : Prg} (h : encOk p = true) : encO p = encV p := by simp [encO, h]
theorem varint_pos (x : Nat) : 0 < (varint x).length := by
  by_cases h : x < 128
  · rw [varint_lt h]; simp
  · rw [varint_ge (by omega)]; simp
theorem encV_pos (p : Prg) : 0 < (encV p).length := by
  unfold encV
  have := varint_pos p.steps.length
  simp only [List.length_append]
  omega
theorem encO_len (p : Prg) : (encO p).length ≤ 1099511627776 := by
  unfold encO
  split
  · rename_i hy
    obtain ⟨hl6, hhd, hfs⟩ := encOk_facts hy
    have h1 := vints_len (l := p.heads) (fun x hx => (hhd x hx).2)
    have h2 := varint_len10 (x := p.steps.length) (by omega)
    have h3 := encStps_len hfs
    have h4 : p.heads.length = 4 := rfl
    unfold encV
    simp only [List.length_append]
    omega
  · simp
theorem encO_len2 (p : Prg) : (encO p).length ≤ 8589934592 := by
  unfold encO
  split
  · rename_i hy
    obtain ⟨hl6, hhd, hfs⟩ := encOk_facts hy
    have h1 := vints_len (l := p.heads) (fun x hx => (hhd x hx).2)
    have h2 := varint_len10 (x := p.steps.length) (by omega)
    have h3 := encStps_len hfs
    have h4 : p.heads.length = 4 := rfl
    unfold encV
    simp only [List.length_append]
    omega
  · simp

theorem StepsBack_b {w0 w : World} {F : List Seg} {E : Nat → Value} {Q : Nat → Addr} (H : Hp w0 w F) (hE : Errs F E Q) (hT : SlAt F (some ⟨1, 0, none⟩) tableC) {p : Prg} {pp : Option Addr} {pc : Nat} (hst : SlAt F pp (stepsV p.steps)) (hp : p.Ok) {cut : Int} {more : List UInt8} {mp : Option Addr} {mc : Nat} (hmo : SlAt F mp (bv more)) (hml : more.length ≤ 549755813888) : Ret Tryd.prog 6 [.agg (prgV p pp p.steps.length pc).toArray, .int .i64 cut, .slice mp more.length mc] w fun v w' => v = .bool true ∧ Hp w0 w' F := by
  refine Calls.of_J (n := 115) Tryd.func6 rfl rfl rfl ?_
  refine J.seq ?_
  refine J.region ?_
  refine JL.does trivial (EX.box (v := Value.agg _) H rfl rfl) ?_
  rintro _ w ⟨b1, rfl, H⟩
  refine JL.go trivial (RX.assign) ?_
  refine JL.nil ?_
  refine J.seq ?_
  refine J.seq ?_
  have hnum := hp.num
  have hel := encO_len2 p
  refine J.region ?_
  refine JL.does trivial (EX.call rfl cl10 rfl ((lives_b H hE.five.cons hT.cons))) ?_
  rintro _ w ⟨rfl, H⟩
  refine JL.go trivial (RX.not rfl) ?_
  refine JL.nil ?_
  refine J.cond_f rfl rfl ?_
  refine J.skip ?_
  refine J.seq ?_
  refine J.region ?_
  refine JL.go trivial (RX.loadAgg H rfl (i := 0) (vs := prgV p pp p.steps.length pc) rfl rfl ag33) ?_
  refine JL.does trivial (EX.call rfl cl15 rfl ((copied_b H hst.cons hp.num))) ?_
  rintro _ w ⟨fp, fc, fs, rfl, hof, H⟩
  have hm := mine_sl hof
  refine JL.go trivial (RX.movev (v := Value.tuple _) rfl) ?_
  refine JL.go trivial (RX.extract rfl rfl) ?_
  refine JL.go trivial (RX.extract rfl rfl) ?_
  refine JL.does trivial (EX.alloc H zr33 rfl) ?_
  rintro _ w ⟨b2, rfl, H⟩
  refine JL.does trivial (EX.storeAgg H rfl rfl (i := 0) (l' := prgV p fp p.steps.length fc) rfl prgV_cell (by simp [prgV]) sz33 rfl rfl) ?_
  rintro _ w H
  refine JL.go trivial (RX.assignv (v := Value.slice _ _ _) rfl) ?_
  refine JL.nil ?_
  refine J.seq ?_
  refine J.region ?_
  refine JL.go trivial (RX.loadAgg H rfl (i := 0) (vs := prgV p fp p.steps.length fc) rfl rfl ag33) ?_
  refine JL.does trivial (EX.call rfl cl16 rfl ((Encode_e H hE.five.cons.cons.cons hT.cons.cons.cons (hm _).cons hp))) ?_
  rintro _ w ⟨q1, c1, s1, rfl, ho1, H⟩
  refine JL.go trivial (RX.movev (v := Value.tuple _) rfl) ?_
  refine JL.go trivial (RX.extract rfl rfl) ?_
  refine JL.go trivial (RX.extract rfl rfl) ?_
  refine JL.go trivial (RX.assignv (v := Value.slice _ _ _) rfl) ?_
  refine JL.go trivial (RX.assign) ?_
  refine JL.nil ?_
  refine J.seq ?_
  refine J.seq ?_
  refine J.region ?_
  refine JL.go trivial (RX.move) ?_
  refine JL.go trivial (RX.ifnil_eql (v := errV E (if encOk p then 0 else 9)) rfl rfl (err9_ie hE.five (by split <;> simp)).1 if29) ?_
  refine JL.nil ?_
  refine J.join (ι := Unit) (fun q => []) (fun q w => Hp w0 w (s1 :: [(b2, cel (prgV p fp p.steps.length fc) 33)] :: fs :: [(b1, cel (prgV p pp p.steps.length pc) 33)] :: F)) [(2, _)] ⟨rfl, trivial⟩ ?_ ?_
  rotate_left
  · skip
    intro k2 hk2
    refine J.cond rfl (fun hok => ?_) (fun hok => ?_)
    · skip
      have hyes : encOk p = true := by
        rw [(err9_ie hE.five (by split <;> simp)).2] at hok
        cases h : encOk p
        · rw [h] at hok; simp at hok
        · rfl
      have heo := encO_yes hyes
      have hpos : 0 < (encO p).length := by rw [heo]; exact encV_pos p
      have hdec : progS (encO p) = some p := by rw [heo]; exact progS_enc hyes
      have hkk : 0 ≤ cut % 18446744073709551616 % ((encO p).length : Int) ∧ cut % 18446744073709551616 % ((encO p).length : Int) < ((encO p).length : Int) := ⟨Int.emod_nonneg _ (by omega), Int.emod_lt_of_pos _ (by omega)⟩
      have hcut : progS ((encO p).take (cut % 18446744073709551616 % ((encO p).length : Int)).toNat) = none := by rw [heo] at hkk ⊢; exact progS_cut hyes (by omega)
      refine J.seq ?_
      refine J.region ?_
      refine JL.does trivial (EX.buildSlice0 H elB) ?_
      rintro _ w ⟨b0, rfl, H⟩
      refine JL.go trivial (RX.movev (v := Value.slice _ _ _) rfl) ?_
      refine JL.does trivial (EX.append (ys := bv (encO p)) (L' := fun s' => s' :: s1 :: [(b2, cel (prgV p fp p.steps.length fc) 33)] :: fs :: [(b1, cel (prgV p pp p.steps.length pc) 33)] :: F) H elB rfl rfl (i := 0) rfl OwnSl.empty ho1.slAt.cons (by simp [bv_len]) (bv_cell _) (by decide) (by omega) (by omega) (fun _ => rfl)) ?_
      rintro v w ⟨qa, ca, sa, hv, hoa, H⟩
      rw [show 0 + (encO p).length = ((encO p)).length by simp] at hv hoa
      rw [List.nil_append] at hoa
      subst hv
      refine JL.does trivial (EX.call rfl cl19 rfl ((Decode_e H hE.five.cons.cons.cons.cons.cons hT.cons.cons.cons.cons.cons hoa.slAt (by omega)))) ?_
      rintro _ w ⟨q2, pp2, pc2, ps2, rfl, hop2, hfs2, hq2, H⟩
      rw [hdec] at hq2 ⊢
      replace hq2 := hq2.symm
      change p = q2 at hq2
      subst hq2
      refine JL.go trivial (RX.movev (v := Value.tuple _) rfl) ?_
      refine JL.go trivial (RX.extract rfl rfl) ?_
      refine JL.go trivial (RX.extract rfl rfl) ?_
      refine JL.does trivial (EX.alloc H zr33 rfl) ?_
      rintro _ w ⟨b3, rfl, H⟩
      refine JL.does trivial (EX.storeAgg H rfl rfl (i := 0) (l' := prgV p pp2 p.steps.length pc2) rfl prgV_cell (by simp [prgV]) sz33 rfl rfl) ?_
      rintro _ w H
      refine JL.go trivial (RX.assign) ?_
      refine JL.nil ?_
      refine J.seq ?_
      refine J.seq ?_
      refine J.region ?_
      refine JL.go trivial (RX.move) ?_
      refine JL.go trivial (RX.ifnil_neq (v := errV E (if (some p).isSome = true then 0 else 9)) rfl rfl rfl if29) ?_
      refine JL.go trivial (RX.movev (v := Value.bool _) rfl) ?_
      refine JL.go ⟨_, rfl, rfl⟩ (RX.loadAgg H rfl (i := 0) (vs := prgV p pp2 p.steps.length pc2) rfl rfl ag33) ?_
      refine JL.go ⟨_, rfl, rfl⟩ (RX.loadAgg H rfl (i := 4) (vs := prgV p fp p.steps.length fc) rfl rfl ag33) ?_
      refine JL.does ⟨_, rfl, rfl⟩ (EX.call rfl cl21 rfl ((Same_b H hop2.slAt.cons (hm _).cons.cons.cons.cons.cons (num63 hp) (num63 hp)))) ?_
      rintro _ w ⟨rfl, H⟩
      refine JL.go ⟨_, rfl, rfl⟩ (RX.not rfl) ?_
      refine JL.go trivial (RX.pick_f rfl rfl) ?_
      refine JL.go trivial (RX.movev (v := Value.bool _) rfl) ?_
      refine JL.go ⟨_, rfl, (by simp)⟩ (RX.loadAgg H rfl (i := 0) (vs := prgV p pp2 p.steps.length pc2) rfl rfl ag33) ?_
      refine JL.go ⟨_, rfl, (by simp)⟩ (RX.loadAgg H rfl (i := 6) (vs := prgV p pp p.steps.length pc) rfl rfl ag33) ?_
      refine JL.does ⟨_, rfl, (by simp)⟩ (EX.call rfl cl18 rfl ((rSame_b H hop2.slAt.cons hst.cons.cons.cons.cons.cons.cons.cons (num63 hp) (num63 hp)))) ?_
      rintro _ w ⟨rfl, H⟩
      refine JL.go ⟨_, rfl, (by simp)⟩ (RX.not rfl) ?_
      refine JL.go trivial (RX.pick_f rfl (by simp)) ?_
      refine JL.go trivial (RX.movev (v := Value.bool _) rfl) ?_
      refine JL.go ⟨_, rfl, (by simp)⟩ (RX.movev (v := Value.slice _ _ _) rfl) ?_
      refine JL.go ⟨_, rfl, (by simp)⟩ (RX.len_slice rfl (by rw [sl36]; rfl) rfl) ?_
      refine JL.go ⟨_, rfl, (by simp)⟩ (RX.eq rfl rfl) ?_
      refine JL.go trivial (RX.pick_f rfl (by simp)) ?_
      refine JL.nil ?_
      refine J.cond_f rfl (decide_eq_false (by omega)) ?_
      refine J.skip ?_
      refine J.seq ?_
      refine J.region ?_
      refine JL.does trivial (EX.buildSlice0 H elB) ?_
      rintro _ w ⟨b0, rfl, H⟩
      refine JL.go trivial (RX.movev (v := Value.slice _ _ _) rfl) ?_
      refine JL.go trivial (RX.movev (v := Value.int _ _) rfl) ?_
      refine JL.go trivial (RX.conv rfl (by rw [ki3]; rfl) ki48 (wrap_u64 _)) ?_
      refine JL.go trivial (RX.movev (v := Value.slice _ _ _) rfl) ?_
      refine JL.go trivial (RX.len_slice rfl (by rw [sl36]; rfl) rfl) ?_
      refine JL.go trivial (RX.conv rfl (by rw [ki3]; rfl) ki48 (w_u64 rfl (by omega) (by omega))) ?_
      refine JL.go trivial (RX.rem rfl rfl (by omega) (Int.tmod_eq_emod_of_nonneg (by omega))) ?_
      refine JL.go trivial (RX.conv rfl (by rw [ki48]; rfl) ki3 (w_i64 rfl (by omega) (by omega))) ?_
      refine JL.go trivial (RX.slice_h rfl rfl sl36 ho1.spot (by omega) (by have := ho1.le; omega) rfl) ?_
      have htk : bv (encO p) = bv ((encO p).take (cut % 18446744073709551616 % ((encO p).length : Int)).toNat) ++ bv ((encO p).drop (cut % 18446744073709551616 % ((encO p).length : Int)).toNat) := by rw [← bv_app, List.take_append_drop]
      have hsk : ∀ L, SlAt (s1 :: L) q1 (bv ((encO p).take (cut % 18446744073709551616 % ((encO p).length : Int)).toNat)) := fun L => (show SlAt (s1 :: L) q1 (bv ((encO p).take (cut % 18446744073709551616 % ((encO p).length : Int)).toNat) ++ bv ((encO p).drop (cut % 18446744073709551616 % ((encO p).length : Int)).toNat)) by rw [← htk]; exact ho1.slAt).pre
      have hkl : ((encO p).take (cut % 18446744073709551616 % ((encO p).length : Int)).toNat).length = (cut % 18446744073709551616 % ((encO p).length : Int)).toNat := by rw [List.length_take]; omega
      refine JL.does trivial (EX.append (ys := bv ((encO p).take (cut % 18446744073709551616 % ((encO p).length : Int)).toNat)) (L' := fun s' => s' :: [(b3, cel (prgV p pp2 p.steps.length pc2) 33)] :: ps2 :: sa :: s1 :: [(b2, cel (prgV p fp p.steps.length fc) 33)] :: fs :: [(b1, cel (prgV p pp p.steps.length pc) 33)] :: F) H elB rfl rfl (i := 0) rfl OwnSl.empty ((hsk _).cons.cons.cons.cons) (by rw [bv_len, hkl]; omega) (bv_cell _) (by decide) (by omega) (by omega) (fun _ => rfl)) ?_
      rintro v w ⟨qb, cb, sb, hv, hob, H⟩
      rw [show 0 + (cut % 18446744073709551616 % ((encO p).length : Int)).toNat = ((encO p).take (cut % 18446744073709551616 % ((encO p).length : Int)).toNat).length by rw [hkl]; omega] at hv hob
      rw [List.nil_append] at hob
      subst hv
      refine JL.does trivial (EX.call rfl cl19 rfl ((Decode_e H hE.five.cons.cons.cons.cons.cons.cons.cons.cons hT.cons.cons.cons.cons.cons.cons.cons.cons hob.slAt (by omega)))) ?_
      rintro _ w ⟨q3, pp3, pc3, ps3, rfl, hop3, hfs3, hq3, H⟩
      rw [hcut] at hq3 ⊢
      refine JL.go trivial (RX.movev (v := Value.tuple _) rfl) ?_
      refine JL.go trivial (RX.extract rfl rfl) ?_
      refine JL.go trivial (RX.extract rfl rfl) ?_
      refine JL.go trivial (RX.assign) ?_
      refine JL.nil ?_
      replace H := H.drop.drop
      refine J.seq ?_
      refine J.seq ?_
      refine J.region ?_
      refine JL.go trivial (RX.move) ?_
      refine JL.does trivial (EX.call rfl cl12 rfl ((Num_b H hE.cons.cons.cons.cons.cons.cons.cons (n := if (none : Option Prg).isSome = true then 0 else 9) (by decide)))) ?_
      rintro _ w ⟨rfl, H⟩
      refine JL.go trivial (RX.ne rfl rfl) ?_
      refine JL.nil ?_
      refine J.cond_f rfl (by decide) ?_
      refine J.skip ?_
      refine J.seq ?_
      refine J.region ?_
      refine JL.go trivial (RX.movev (v := Value.slice _ _ _) rfl) ?_
      refine JL.go trivial (RX.len_slice rfl (by rw [sl36]; rfl) rfl) ?_
      refine JL.go trivial (RX.gt rfl rfl) ?_
      refine JL.nil ?_
      refine J.cond_d rfl (fun hm0 => ?_) (fun hm0 => ?_)
      · skip
        have hmore : progS (encO p ++ more) = none := by rw [heo]; exact progS_more hyes (by intro h; rw [h] at hm0; simp at hm0)
        refine J.seq ?_
        refine J.region ?_
        refine JL.does trivial (EX.buildSlice0 H elB) ?_
        rintro _ w ⟨b0, rfl, H⟩
        refine JL.go trivial (RX.movev (v := Value.slice _ _ _) rfl) ?_
        refine JL.does trivial (EX.append (ys := bv (encO p)) (L' := fun s' => s' :: [(b3, cel (prgV p pp2 p.steps.length pc2) 33)] :: ps2 :: sa :: s1 :: [(b2, cel (prgV p fp p.steps.length fc) 33)] :: fs :: [(b1, cel (prgV p pp p.steps.length pc) 33)] :: F) H elB rfl rfl (i := 0) rfl OwnSl.empty ho1.slAt.cons.cons.cons.cons (by simp [bv_len]) (bv_cell _) (by decide) (by omega) (by omega) (fun _ => rfl)) ?_
        rintro v w ⟨qc, cc, sc, hv, hoc, H⟩
        rw [show 0 + (encO p).length = ((encO p)).length by simp] at hv hoc
        rw [List.nil_append] at hoc
        subst hv
        refine JL.go trivial (RX.movev (v := Value.slice _ _ _) rfl) ?_
        refine JL.does trivial (EX.append (ys := bv more) (L' := fun s' => s' :: [(b3, cel (prgV p pp2 p.steps.length pc2) 33)] :: ps2 :: sa :: s1 :: [(b2, cel (prgV p fp p.steps.length fc) 33)] :: fs :: [(b1, cel (prgV p pp p.steps.length pc) 33)] :: F) H elB rfl rfl (i := 0) rfl hoc hmo.cons.cons.cons.cons.cons.cons.cons.cons (by simp [bv_len]) (bv_cell _) (by decide) (by omega) (by omega) (fun _ => rfl)) ?_
        rintro v w ⟨qd, cd, sd, hv, hod, H⟩
        rw [show (encO p).length + more.length = (encO p ++ more).length by simp] at hv hod
        rw [← bv_app] at hod
        subst hv
        refine JL.does trivial (EX.call rfl cl19 rfl ((Decode_e H hE.five.cons.cons.cons.cons.cons.cons.cons.cons hT.cons.cons.cons.cons.cons.cons.cons.cons hod.slAt (by rw [List.length_append]; omega)))) ?_
        rintro _ w ⟨q4, pp4, pc4, ps4, rfl, hop4, hfs4, hq4, H⟩
        rw [hmore] at hq4 ⊢
        refine JL.go trivial (RX.movev (v := Value.tuple _) rfl) ?_
        refine JL.go trivial (RX.extract rfl rfl) ?_
        refine JL.go trivial (RX.extract rfl rfl) ?_
        refine JL.go trivial (RX.assign) ?_
        refine JL.nil ?_
        refine J.seq ?_
        refine J.region ?_
        refine JL.go trivial (RX.move) ?_
        refine JL.does trivial (EX.call rfl cl12 rfl ((Num_b H hE.cons.cons.cons.cons.cons.cons.cons.cons.cons (n := if (none : Option Prg).isSome = true then 0 else 9) (by decide)))) ?_
        rintro _ w ⟨rfl, H⟩
        refine JL.go trivial (RX.ne rfl rfl) ?_
        refine JL.nil ?_
        refine J.cond_f rfl (by decide) ?_
        refine J.skip ?_
        first
        | exact hk2 () _ _ ⟨rfl, trivial⟩ trivial H
        | exact hk2 () _ _ ⟨rfl, trivial⟩ trivial H.drop.drop.drop
        | exact hk2 () _ _ ⟨rfl, trivial⟩ trivial H.drop.drop.drop.drop.drop
      · skip
        refine J.skip ?_
        first
        | exact hk2 () _ _ ⟨rfl, trivial⟩ trivial H
        | exact hk2 () _ _ ⟨rfl, trivial⟩ trivial H.drop.drop.drop
        | exact hk2 () _ _ ⟨rfl, trivial⟩ trivial H.drop.drop.drop.drop.drop
    · skip
      refine J.skip ?_
      first
      | exact hk2 () _ _ ⟨rfl, trivial⟩ trivial H
      | exact hk2 () _ _ ⟨rfl, trivial⟩ trivial H.drop.drop.drop
      | exact hk2 () _ _ ⟨rfl, trivial⟩ trivial H.drop.drop.drop.drop.drop
  · skip
    clear H
    rintro _ ρ w H
    refine J.seq ?_
    refine J.region ?_
    refine JL.does trivial (EX.buildSlice0 H elB) ?_
    rintro _ w ⟨b0, rfl, H⟩
    refine JL.go trivial (RX.movev (v := Value.slice _ _ _) rfl) ?_
    refine JL.does trivial (EX.append (ys := bv more) (L' := fun s' => s' :: s1 :: [(b2, cel (prgV p fp p.steps.length fc) 33)] :: fs :: [(b1, cel (prgV p pp p.steps.length pc) 33)] :: F) H elB rfl rfl (i := 0) rfl OwnSl.empty hmo.cons.cons.cons.cons.cons (by simp [bv_len]) (bv_cell _) (by decide) (by omega) (by omega) (fun _ => rfl)) ?_
    rintro v w ⟨qe, ce, se, hv, hoe, H⟩
    rw [show 0 + more.length = (more).length by simp] at hv hoe
    rw [List.nil_append] at hoe
    subst hv
    refine JL.does trivial (EX.call rfl cl19 rfl ((Decode_e H hE.five.cons.cons.cons.cons.cons hT.cons.cons.cons.cons.cons hoe.slAt (by omega)))) ?_
    rintro _ w ⟨_, pp5, pc5, ps5, rfl, hop5, hfs5, rfl, H⟩
    refine JL.go trivial (RX.movev (v := Value.tuple _) rfl) ?_
    refine JL.go trivial (RX.extract rfl rfl) ?_
    refine JL.go trivial (RX.extract rfl rfl) ?_
    refine JL.does trivial (EX.alloc H zr33 rfl) ?_
    rintro _ w ⟨b5, rfl, H⟩
    refine JL.does trivial (EX.storeAgg H rfl rfl (i := 0) (l' := prgV ((progS more).getD prg0) pp5 ((progS more).getD prg0).steps.length pc5) rfl prgV_cell (by simp [prgV]) sz33 rfl rfl) ?_
    rintro _ w H
    refine JL.go trivial (RX.assign) ?_
    refine JL.nil ?_
    refine J.seq ?_
    refine J.seq ?_
    refine J.region ?_
    refine JL.go trivial (RX.move) ?_
    refine JL.go trivial (RX.ifnil_neq (v := errV E (if (progS more).isSome then 0 else 9)) rfl rfl (err9_ie hE.five (by split <;> simp)).1 if29) ?_
    refine JL.nil ?_
    refine J.cond rfl (fun hno => ?_) (fun hno => ?_)
    · skip
      refine J.seq ?_
      refine J.region ?_
      refine JL.go trivial (RX.fieldAddr rfl fo33_4 rfl) ?_
      refine JL.go trivial (by first | exact RX.load H rfl (i := 0) rfl rfl one22 | exact RX.load H rfl (i := 1) rfl rfl one22 | exact RX.load H rfl (i := 2) rfl rfl one22 | exact RX.load H rfl (i := 3) rfl rfl one22 | exact RX.load H rfl (i := 4) rfl rfl one22 | exact RX.load H rfl (i := 5) rfl rfl one22 | exact RX.load H rfl (i := 6) rfl rfl one22 | exact RX.load H rfl (i := 7) rfl rfl one22) ?_
      refine JL.go trivial (RX.len_slice rfl (by rw [sl22]; rfl) rfl) ?_
      refine JL.go trivial (RX.eq rfl rfl) ?_
      refine JL.go trivial (RX.assignv (v := Value.bool _) rfl) ?_
      refine JL.nil ?_
      refine J.ret1 (v := Value.bool _) Tryd.func6 rfl rfl ?_
      have hnone : progS more = none := by
        rw [(err9_ie hE.five (by split <;> simp)).2] at hno
        cases h : progS more
        · rfl
        · rw [h] at hno; simp at hno
      exact ⟨_, rfl, (by rw [hnone]; rfl), H.drop.drop.drop.drop.drop.drop.drop⟩
    · skip
      have hsome : progS more = some ((progS more).getD prg0) := by
        rw [(err9_ie hE.five (by split <;> simp)).2] at hno
        cases h : progS more
        · rw [h] at hno; simp at hno
        · rfl
      obtain ⟨hbk, hbe⟩ := progS_back hsome
      have hbo : encO ((progS more).getD prg0) = more := (encO_yes hbk).trans hbe
      refine J.skip ?_
      refine J.seq ?_
      refine J.region ?_
      refine JL.go trivial (RX.loadAgg H rfl (i := 0) (vs := prgV ((progS more).getD prg0) pp5 ((progS more).getD prg0).steps.length pc5) rfl rfl ag33) ?_
      refine JL.does trivial (EX.call rfl cl16 rfl ((Encode_e H hE.five.cons.cons.cons.cons.cons.cons.cons hT.cons.cons.cons.cons.cons.cons.cons hop5.slAt.cons (encOk_ok hbk)))) ?_
      rintro _ w ⟨q6, c6, s6, rfl, ho6, H⟩
      rw [hbk]
      rw [hbo] at ho6 ⊢
      refine JL.go trivial (RX.movev (v := Value.tuple _) rfl) ?_
      refine JL.go trivial (RX.extract rfl rfl) ?_
      refine JL.go trivial (RX.extract rfl rfl) ?_
      refine JL.go trivial (RX.assignv (v := Value.slice _ _ _) rfl) ?_
      refine JL.go trivial (RX.assign) ?_
      refine JL.nil ?_
      refine J.seq ?_
      refine J.region ?_
      refine JL.go trivial (RX.move) ?_
      refine JL.go trivial (RX.ifnil_eql (v := errV E (if true = true then 0 else 9)) rfl rfl rfl if29) ?_
      refine JL.go trivial (RX.movev (v := Value.bool _) rfl) ?_
      refine JL.go ⟨_, rfl, rfl⟩ (RX.movev (v := Value.slice _ _ _) rfl) ?_
      refine JL.go ⟨_, rfl, rfl⟩ (RX.b2s (l := more) H rfl ho6.slAt sl36 ud5 ud9) ?_
      refine JL.go ⟨_, rfl, rfl⟩ (RX.movev (v := Value.slice _ _ _) rfl) ?_
      refine JL.go ⟨_, rfl, rfl⟩ (RX.b2s (l := more) H rfl hmo.cons.cons.cons.cons.cons.cons.cons.cons sl36 ud5 ud9) ?_
      refine JL.go ⟨_, rfl, rfl⟩ (RX.str_eql rfl rfl) ?_
      refine JL.go trivial (RX.pick_t rfl rfl) ?_
      refine JL.go trivial (RX.assignv (v := Value.bool _) rfl) ?_
      refine JL.nil ?_
      refine J.ret1 (v := Value.bool _) Tryd.func6 rfl rfl ?_
      exact ⟨_, rfl, (by simp), H.drop.drop.drop.drop.drop.drop.drop.drop⟩
end Go.Proofs.YtnbbeghaeijcbaaDoor
