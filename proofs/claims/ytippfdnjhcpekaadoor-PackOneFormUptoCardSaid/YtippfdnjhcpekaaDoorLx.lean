/- What the laws of chapter 4 call: write, lives. -/
import Derived.Test.YtippfdnjhcpekaaDoorRq
namespace Go.Proofs.YtippfdnjhcpekaaDoor
open Go Go.Eng
set_option maxRecDepth 100000
set_option linter.unusedVariables false
set_option linter.unusedSimpArgs false
theorem write_b {w0 w : World} {F : List Seg} {b T : Nat} {xs : List UInt8} (hw : Wr w0 F b T xs w) {E : Nat → Value} {Q : Nat → Addr} (hE : Errs F E Q) {x : Va} (hx : x.Ok F) (hl : xs.length + 33554432 ≤ 1099511627776) : Ret Tryd.prog 10 [.pointer (some ⟨b, 0, none⟩), .agg x.cells.toArray] w fun v w' => ∃ p c s q qc qs, v = .tuple #[.slice q (vform x).length qc, .bool true] ∧ OwnSl 5 1 q (vform x).length qc (bv (vform x)) qs ∧ OwnSl 5 1 p (xs ++ vform x).length c (bv (xs ++ vform x)) s ∧ Hp w0 w' ([(b, cel [.slice p (xs ++ vform x).length c] T)] :: s :: qs :: F) := by
  refine Calls.of_J (n := 103) Tryd.func10 rfl rfl rfl ?_
  refine J.seq ?_
  obtain ⟨p, c, s, ho, H⟩ := hw
  refine J.region ?_
  refine JL.does trivial (EX.box (v := Value.agg _) H rfl rfl) ?_
  rintro _ w ⟨b1, rfl, H⟩
  refine JL.go trivial (RX.assign) ?_
  refine JL.go trivial (RX.assign) ?_
  refine JL.nil ?_
  replace H := (H.pull 2 rfl).pull 2 rfl
  have hks := hx.ks
  have hkl := hx.kl
  refine J.seq ?_
  refine J.seq ?_
  refine J.region ?_
  refine JL.go trivial (RX.fieldAddr rfl fo30_0 rfl) ?_
  refine JL.go trivial (by first | exact RX.load H rfl (i := 0) rfl rfl one3 | exact RX.load H rfl (i := 1) rfl rfl one3 | exact RX.load H rfl (i := 2) rfl rfl one3 | exact RX.load H rfl (i := 3) rfl rfl one3 | exact RX.load H rfl (i := 4) rfl rfl one3 | exact RX.load H rfl (i := 5) rfl rfl one3 | exact RX.load H rfl (i := 6) rfl rfl one3) ?_
  refine JL.nil ?_
  refine J.block ?_
  refine J.seq ?_
  refine J.seq ?_
  refine J.region ?_
  refine JL.go trivial (RX.eq rfl rfl) ?_
  refine JL.go trivial (RX.assignv (v := Value.bool _) rfl) ?_
  refine JL.nil ?_
  refine J.cond_d rfl (fun h0 => ?_) (fun h0 => ?_)
  · skip
    refine J.skip ?_
    refine J.cond_t rfl (decide_eq_true h0) ?_
    refine J.seq ?_
    refine J.region ?_
    refine JL.go trivial (RX.movev (v := Value.pointer _) rfl) ?_
    refine JL.go trivial (RX.fieldAddr rfl fo30_1 rfl) ?_
    refine JL.go trivial (by first | exact RX.load H rfl (i := 0) rfl rfl one27 | exact RX.load H rfl (i := 1) rfl rfl one27 | exact RX.load H rfl (i := 2) rfl rfl one27 | exact RX.load H rfl (i := 3) rfl rfl one27 | exact RX.load H rfl (i := 4) rfl rfl one27 | exact RX.load H rfl (i := 5) rfl rfl one27 | exact RX.load H rfl (i := 6) rfl rfl one27) ?_
    refine JL.does trivial (EX.call rfl cl25 rfl ((Uint_c ⟨p, c, s, ho, H⟩ hx.ku (by omega)))) ?_
    rintro _ w ⟨rfl, p, c, s, ho, H⟩
    refine JL.nil ?_
    refine J.seq ?_
    refine J.region ?_
    refine JL.go trivial (RX.fieldAddr rfl fo30_1 rfl) ?_
    refine JL.go trivial (by first | exact RX.load H rfl (i := 0) rfl rfl one27 | exact RX.load H rfl (i := 1) rfl rfl one27 | exact RX.load H rfl (i := 2) rfl rfl one27 | exact RX.load H rfl (i := 3) rfl rfl one27 | exact RX.load H rfl (i := 4) rfl rfl one27 | exact RX.load H rfl (i := 5) rfl rfl one27 | exact RX.load H rfl (i := 6) rfl rfl one27) ?_
    refine JL.does trivial (EX.call rfl cl41 rfl ((ref_Uint H hx.ku))) ?_
    rintro _ w ⟨q, qc, qs, rfl, hoq, H⟩
    refine JL.go trivial (RX.assignv (v := Value.slice _ _ _) rfl) ?_
    refine JL.go trivial (RX.assign) ?_
    refine JL.nil ?_
    refine J.ret2 (v := Value.slice _ _ _) (x := Value.bool _) Tryd.func10 rfl rfl rfl ?_
    rw [vf0 (.inl h0)]
    exact ⟨_, rfl, p, c, s, q, qc, qs, rfl, hoq, ho, (((H.pull 3 rfl).drop).pull 2 rfl).pull 2 rfl⟩
  · skip
    refine J.region ?_
    refine JL.go trivial (RX.eq rfl rfl) ?_
    refine JL.go trivial (RX.assignv (v := Value.bool _) rfl) ?_
    refine JL.nil ?_
    refine J.cond_d rfl (fun h8 => ?_) (fun h8 => ?_)
    · skip
      refine J.seq ?_
      refine J.region ?_
      refine JL.go trivial (RX.movev (v := Value.pointer _) rfl) ?_
      refine JL.go trivial (RX.fieldAddr rfl fo30_1 rfl) ?_
      refine JL.go trivial (by first | exact RX.load H rfl (i := 0) rfl rfl one27 | exact RX.load H rfl (i := 1) rfl rfl one27 | exact RX.load H rfl (i := 2) rfl rfl one27 | exact RX.load H rfl (i := 3) rfl rfl one27 | exact RX.load H rfl (i := 4) rfl rfl one27 | exact RX.load H rfl (i := 5) rfl rfl one27 | exact RX.load H rfl (i := 6) rfl rfl one27) ?_
      refine JL.does trivial (EX.call rfl cl25 rfl ((Uint_c ⟨p, c, s, ho, H⟩ hx.ku (by omega)))) ?_
      rintro _ w ⟨rfl, p, c, s, ho, H⟩
      refine JL.nil ?_
      refine J.seq ?_
      refine J.region ?_
      refine JL.go trivial (RX.fieldAddr rfl fo30_1 rfl) ?_
      refine JL.go trivial (by first | exact RX.load H rfl (i := 0) rfl rfl one27 | exact RX.load H rfl (i := 1) rfl rfl one27 | exact RX.load H rfl (i := 2) rfl rfl one27 | exact RX.load H rfl (i := 3) rfl rfl one27 | exact RX.load H rfl (i := 4) rfl rfl one27 | exact RX.load H rfl (i := 5) rfl rfl one27 | exact RX.load H rfl (i := 6) rfl rfl one27) ?_
      refine JL.does trivial (EX.call rfl cl41 rfl ((ref_Uint H hx.ku))) ?_
      rintro _ w ⟨q, qc, qs, rfl, hoq, H⟩
      refine JL.go trivial (RX.assignv (v := Value.slice _ _ _) rfl) ?_
      refine JL.go trivial (RX.assign) ?_
      refine JL.nil ?_
      refine J.ret2 (v := Value.slice _ _ _) (x := Value.bool _) Tryd.func10 rfl rfl rfl ?_
      rw [vf0 (.inr h8)]
      exact ⟨_, rfl, p, c, s, q, qc, qs, rfl, hoq, ho, (((H.pull 3 rfl).drop).pull 2 rfl).pull 2 rfl⟩
    · skip
      refine J.seq ?_
      refine J.region ?_
      refine JL.go trivial (RX.eq rfl rfl) ?_
      refine JL.go trivial (RX.assignv (v := Value.bool _) rfl) ?_
      refine JL.nil ?_
      refine J.cond_d rfl (fun h1 => ?_) (fun h1 => ?_)
      · skip
        refine J.seq ?_
        refine J.region ?_
        refine JL.go trivial (RX.movev (v := Value.pointer _) rfl) ?_
        refine JL.go trivial (RX.fieldAddr rfl fo30_1 rfl) ?_
        refine JL.go trivial (by first | exact RX.load H rfl (i := 0) rfl rfl one27 | exact RX.load H rfl (i := 1) rfl rfl one27 | exact RX.load H rfl (i := 2) rfl rfl one27 | exact RX.load H rfl (i := 3) rfl rfl one27 | exact RX.load H rfl (i := 4) rfl rfl one27 | exact RX.load H rfl (i := 5) rfl rfl one27 | exact RX.load H rfl (i := 6) rfl rfl one27) ?_
        refine JL.go trivial (RX.conv rfl (by rw [ki27]; rfl) ki2 (toI_run hx.ku)) ?_
        refine JL.does trivial (EX.call rfl cl27 rfl ((Int_c ⟨p, c, s, ho, H⟩ (toI_in hx.ku).1 (toI_in hx.ku).2 (by omega)))) ?_
        rintro _ w ⟨rfl, p, c, s, ho, H⟩
        refine JL.nil ?_
        refine J.seq ?_
        refine J.region ?_
        refine JL.go trivial (RX.fieldAddr rfl fo30_1 rfl) ?_
        refine JL.go trivial (by first | exact RX.load H rfl (i := 0) rfl rfl one27 | exact RX.load H rfl (i := 1) rfl rfl one27 | exact RX.load H rfl (i := 2) rfl rfl one27 | exact RX.load H rfl (i := 3) rfl rfl one27 | exact RX.load H rfl (i := 4) rfl rfl one27 | exact RX.load H rfl (i := 5) rfl rfl one27 | exact RX.load H rfl (i := 6) rfl rfl one27) ?_
        refine JL.go trivial (RX.conv rfl (by rw [ki27]; rfl) ki2 (toI_run hx.ku)) ?_
        refine JL.does trivial (EX.call rfl cl42 rfl ((rInt_b H (toI_in hx.ku).1 (toI_in hx.ku).2))) ?_
        rintro _ w ⟨q, qc, qs, rfl, hoq, H⟩
        refine JL.go trivial (RX.assignv (v := Value.slice _ _ _) rfl) ?_
        refine JL.go trivial (RX.assign) ?_
        refine JL.nil ?_
        refine J.ret2 (v := Value.slice _ _ _) (x := Value.bool _) Tryd.func10 rfl rfl rfl ?_
        rw [vf1 h1]
        exact ⟨_, rfl, p, c, s, q, qc, qs, rfl, hoq, ho, (((H.pull 3 rfl).drop).pull 2 rfl).pull 2 rfl⟩
      · skip
        refine J.seq ?_
        refine J.region ?_
        refine JL.go trivial (RX.eq rfl rfl) ?_
        refine JL.go trivial (RX.assignv (v := Value.bool _) rfl) ?_
        refine JL.nil ?_
        refine J.cond_d rfl (fun h2 => ?_) (fun h2 => ?_)
        · skip
          refine J.seq ?_
          refine J.region ?_
          refine JL.go trivial (RX.movev (v := Value.pointer _) rfl) ?_
          refine JL.go trivial (RX.fieldAddr rfl fo30_1 rfl) ?_
          refine JL.go trivial (by first | exact RX.load H rfl (i := 0) rfl rfl one27 | exact RX.load H rfl (i := 1) rfl rfl one27 | exact RX.load H rfl (i := 2) rfl rfl one27 | exact RX.load H rfl (i := 3) rfl rfl one27 | exact RX.load H rfl (i := 4) rfl rfl one27 | exact RX.load H rfl (i := 5) rfl rfl one27 | exact RX.load H rfl (i := 6) rfl rfl one27) ?_
          refine JL.does trivial (EX.call rfl cl43 rfl ((of_b H))) ?_
          rintro _ w ⟨rfl, H⟩
          refine JL.does trivial (EX.call rfl cl29 rfl ((Float_c ⟨p, c, s, ho, H⟩ hx.ku (by omega)))) ?_
          rintro _ w ⟨rfl, p, c, s, ho, H⟩
          refine JL.nil ?_
          refine J.seq ?_
          refine J.region ?_
          refine JL.go trivial (RX.fieldAddr rfl fo30_1 rfl) ?_
          refine JL.go trivial (by first | exact RX.load H rfl (i := 0) rfl rfl one27 | exact RX.load H rfl (i := 1) rfl rfl one27 | exact RX.load H rfl (i := 2) rfl rfl one27 | exact RX.load H rfl (i := 3) rfl rfl one27 | exact RX.load H rfl (i := 4) rfl rfl one27 | exact RX.load H rfl (i := 5) rfl rfl one27 | exact RX.load H rfl (i := 6) rfl rfl one27) ?_
          refine JL.does trivial (EX.call rfl cl43 rfl ((of_b H))) ?_
          rintro _ w ⟨rfl, H⟩
          refine JL.does trivial (EX.call rfl cl44 rfl ((rFloat_b H hx.ku))) ?_
          rintro _ w ⟨q, qc, qs, rfl, hoq, H⟩
          refine JL.go trivial (RX.assignv (v := Value.slice _ _ _) rfl) ?_
          refine JL.go trivial (RX.assign) ?_
          refine JL.nil ?_
          refine J.ret2 (v := Value.slice _ _ _) (x := Value.bool _) Tryd.func10 rfl rfl rfl ?_
          rw [vf2 h2]
          exact ⟨_, rfl, p, c, s, q, qc, qs, rfl, hoq, ho, (((H.pull 3 rfl).drop).pull 2 rfl).pull 2 rfl⟩
        · skip
          refine J.seq ?_
          refine J.region ?_
          refine JL.go trivial (RX.eq rfl rfl) ?_
          refine JL.go trivial (RX.assignv (v := Value.bool _) rfl) ?_
          refine JL.nil ?_
          refine J.cond_d rfl (fun h3 => ?_) (fun h3 => ?_)
          · skip
            refine J.seq ?_
            refine J.region ?_
            refine JL.go trivial (RX.movev (v := Value.pointer _) rfl) ?_
            refine JL.go trivial (by first | exact RX.loadAgg H rfl (i := 0) rfl rfl ag30 | exact RX.loadAgg H rfl (i := 1) rfl rfl ag30 | exact RX.loadAgg H rfl (i := 2) rfl rfl ag30 | exact RX.loadAgg H rfl (i := 3) rfl rfl ag30 | exact RX.loadAgg H rfl (i := 4) rfl rfl ag30 | exact RX.loadAgg H rfl (i := 5) rfl rfl ag30 | exact RX.loadAgg H rfl (i := 6) rfl rfl ag30) ?_
            refine JL.does trivial (EX.call rfl cl45 rfl ((complexOf_b H))) ?_
            rintro _ w ⟨rfl, H⟩
            refine JL.does trivial (EX.call rfl cl31 rfl ((Complex_c ⟨p, c, s, ho, H⟩ (q := (x.u, x.v)) ⟨hx.ku, hx.kv⟩ (by omega)))) ?_
            rintro _ w ⟨rfl, p, c, s, ho, H⟩
            refine JL.nil ?_
            refine J.seq ?_
            refine J.region ?_
            refine JL.go trivial (by first | exact RX.loadAgg H rfl (i := 0) rfl rfl ag30 | exact RX.loadAgg H rfl (i := 1) rfl rfl ag30 | exact RX.loadAgg H rfl (i := 2) rfl rfl ag30 | exact RX.loadAgg H rfl (i := 3) rfl rfl ag30 | exact RX.loadAgg H rfl (i := 4) rfl rfl ag30 | exact RX.loadAgg H rfl (i := 5) rfl rfl ag30 | exact RX.loadAgg H rfl (i := 6) rfl rfl ag30) ?_
            refine JL.does trivial (EX.call rfl cl45 rfl ((complexOf_b H))) ?_
            rintro _ w ⟨rfl, H⟩
            refine JL.does trivial (EX.call rfl cl46 rfl ((rComplex_b H (q := (x.u, x.v)) ⟨hx.ku, hx.kv⟩))) ?_
            rintro _ w ⟨q, qc, qs, rfl, hoq, H⟩
            refine JL.go trivial (RX.assignv (v := Value.slice _ _ _) rfl) ?_
            refine JL.go trivial (RX.assign) ?_
            refine JL.nil ?_
            refine J.ret2 (v := Value.slice _ _ _) (x := Value.bool _) Tryd.func10 rfl rfl rfl ?_
            rw [vf3 h3]
            exact ⟨_, rfl, p, c, s, q, qc, qs, rfl, hoq, ho, (((H.pull 3 rfl).drop).pull 2 rfl).pull 2 rfl⟩
          · skip
            refine J.seq ?_
            refine J.region ?_
            refine JL.go trivial (RX.eq rfl rfl) ?_
            refine JL.go trivial (RX.assignv (v := Value.bool _) rfl) ?_
            refine JL.nil ?_
            refine J.cond_d rfl (fun h4 => ?_) (fun h4 => ?_)
            · skip
              refine J.seq ?_
              refine J.region ?_
              refine JL.go trivial (RX.movev (v := Value.pointer _) rfl) ?_
              refine JL.go trivial (by first | exact RX.loadAgg H rfl (i := 0) rfl rfl ag30 | exact RX.loadAgg H rfl (i := 1) rfl rfl ag30 | exact RX.loadAgg H rfl (i := 2) rfl rfl ag30 | exact RX.loadAgg H rfl (i := 3) rfl rfl ag30 | exact RX.loadAgg H rfl (i := 4) rfl rfl ag30 | exact RX.loadAgg H rfl (i := 5) rfl rfl ag30 | exact RX.loadAgg H rfl (i := 6) rfl rfl ag30) ?_
              refine JL.does trivial (EX.call rfl cl47 rfl ((narrowOf_b H))) ?_
              rintro _ w ⟨rfl, H⟩
              refine JL.does trivial (EX.call rfl cl33 rfl ((Narrow_c ⟨p, c, s, ho, H⟩ (q := (lo32 x.u, lo32 x.v)) ⟨lo32_ok _, lo32_ok _⟩ (by omega)))) ?_
              rintro _ w ⟨rfl, p, c, s, ho, H⟩
              refine JL.nil ?_
              refine J.seq ?_
              refine J.region ?_
              refine JL.go trivial (by first | exact RX.loadAgg H rfl (i := 0) rfl rfl ag30 | exact RX.loadAgg H rfl (i := 1) rfl rfl ag30 | exact RX.loadAgg H rfl (i := 2) rfl rfl ag30 | exact RX.loadAgg H rfl (i := 3) rfl rfl ag30 | exact RX.loadAgg H rfl (i := 4) rfl rfl ag30 | exact RX.loadAgg H rfl (i := 5) rfl rfl ag30 | exact RX.loadAgg H rfl (i := 6) rfl rfl ag30) ?_
              refine JL.does trivial (EX.call rfl cl47 rfl ((narrowOf_b H))) ?_
              rintro _ w ⟨rfl, H⟩
              refine JL.does trivial (EX.call rfl cl48 rfl ((rNarrow_b H (q := (lo32 x.u, lo32 x.v)) ⟨lo32_ok _, lo32_ok _⟩))) ?_
              rintro _ w ⟨q, qc, qs, rfl, hoq, H⟩
              refine JL.go trivial (RX.assignv (v := Value.slice _ _ _) rfl) ?_
              refine JL.go trivial (RX.assign) ?_
              refine JL.nil ?_
              refine J.ret2 (v := Value.slice _ _ _) (x := Value.bool _) Tryd.func10 rfl rfl rfl ?_
              rw [vf4 h4]
              exact ⟨_, rfl, p, c, s, q, qc, qs, rfl, hoq, ho, (((H.pull 3 rfl).drop).pull 2 rfl).pull 2 rfl⟩
            · skip
              refine J.seq ?_
              refine J.region ?_
              refine JL.go trivial (RX.eq rfl rfl) ?_
              refine JL.go trivial (RX.assignv (v := Value.bool _) rfl) ?_
              refine JL.nil ?_
              refine J.cond_d rfl (fun h5 => ?_) (fun h5 => ?_)
              · skip
                refine J.seq ?_
                refine J.region ?_
                refine JL.go trivial (RX.movev (v := Value.pointer _) rfl) ?_
                refine JL.go trivial (RX.fieldAddr rfl fo30_3 rfl) ?_
                refine JL.go trivial (by first | exact RX.load H rfl (i := 0) rfl rfl one9 | exact RX.load H rfl (i := 1) rfl rfl one9 | exact RX.load H rfl (i := 2) rfl rfl one9 | exact RX.load H rfl (i := 3) rfl rfl one9 | exact RX.load H rfl (i := 4) rfl rfl one9 | exact RX.load H rfl (i := 5) rfl rfl one9 | exact RX.load H rfl (i := 6) rfl rfl one9) ?_
                refine JL.does trivial (EX.call rfl cl35 rfl ((Text_c ⟨p, c, s, ho, H⟩ (by omega) (by omega)))) ?_
                rintro _ w ⟨rfl, p, c, s, ho, H⟩
                refine JL.nil ?_
                refine J.seq ?_
                refine J.region ?_
                refine JL.go trivial (RX.fieldAddr rfl fo30_3 rfl) ?_
                refine JL.go trivial (by first | exact RX.load H rfl (i := 0) rfl rfl one9 | exact RX.load H rfl (i := 1) rfl rfl one9 | exact RX.load H rfl (i := 2) rfl rfl one9 | exact RX.load H rfl (i := 3) rfl rfl one9 | exact RX.load H rfl (i := 4) rfl rfl one9 | exact RX.load H rfl (i := 5) rfl rfl one9 | exact RX.load H rfl (i := 6) rfl rfl one9) ?_
                refine JL.does trivial (EX.call rfl cl49 rfl ((rText_b H (by omega)))) ?_
                rintro _ w ⟨q, qc, qs, rfl, hoq, H⟩
                refine JL.go trivial (RX.assignv (v := Value.slice _ _ _) rfl) ?_
                refine JL.go trivial (RX.assign) ?_
                refine JL.nil ?_
                refine J.ret2 (v := Value.slice _ _ _) (x := Value.bool _) Tryd.func10 rfl rfl rfl ?_
                rw [vf5 h5]
                exact ⟨_, rfl, p, c, s, q, qc, qs, rfl, hoq, ho, (((H.pull 3 rfl).drop).pull 2 rfl).pull 2 rfl⟩
              · skip
                refine J.seq ?_
                refine J.region ?_
                refine JL.go trivial (RX.eq rfl rfl) ?_
                refine JL.go trivial (RX.assignv (v := Value.bool _) rfl) ?_
                refine JL.nil ?_
                refine J.cond_d rfl (fun h6 => ?_) (fun h6 => ?_)
                · skip
                  refine J.seq ?_
                  refine J.region ?_
                  refine JL.go trivial (by first | exact RX.loadAgg H rfl (i := 0) rfl rfl ag30 | exact RX.loadAgg H rfl (i := 1) rfl rfl ag30 | exact RX.loadAgg H rfl (i := 2) rfl rfl ag30 | exact RX.loadAgg H rfl (i := 3) rfl rfl ag30 | exact RX.loadAgg H rfl (i := 4) rfl rfl ag30 | exact RX.loadAgg H rfl (i := 5) rfl rfl ag30 | exact RX.loadAgg H rfl (i := 6) rfl rfl ag30) ?_
                  refine JL.does trivial (EX.call rfl cl13 rfl ((listOf_b H hx.cons.cons.cons))) ?_
                  rintro _ w ⟨lp1, lc1, ls1, rfl, hol1, H⟩
                  have hpl := pairs_len x.list
                  have hsm : (pairs x.list).length ≤ 1048576 := by omega
                  have hpk : ∀ q ∈ pairs x.list, u64ok q.1 ∧ u64ok q.2 := fun q hq => ⟨hx.kb _ (pairs_mem _ _ hq).1, hx.kb _ (pairs_mem _ _ hq).2⟩
                  refine JL.does trivial (EX.call rfl cl50 rfl ((rList_b H hol1.slAt hpk (by omega)))) ?_
                  rintro _ w h
                  simp only [if_pos hsm] at h
                  obtain ⟨q, qc, qs, rfl, hoq, H⟩ := h
                  refine JL.go trivial (RX.movev (v := Value.tuple _) rfl) ?_
                  refine JL.go trivial (RX.extract rfl rfl) ?_
                  refine JL.go trivial (RX.extract rfl rfl) ?_
                  refine JL.go trivial (RX.assignv (v := Value.slice _ _ _) rfl) ?_
                  refine JL.go trivial (RX.assignv (v := Value.int _ _) rfl) ?_
                  refine JL.nil ?_
                  refine J.seq ?_
                  refine J.region ?_
                  refine JL.go trivial (RX.movev (v := Value.slice _ _ _) rfl) ?_
                  refine JL.go trivial (RX.movev (v := Value.pointer _) rfl) ?_
                  refine JL.go trivial (by first | exact RX.loadAgg H rfl (i := 0) rfl rfl ag30 | exact RX.loadAgg H rfl (i := 1) rfl rfl ag30 | exact RX.loadAgg H rfl (i := 2) rfl rfl ag30 | exact RX.loadAgg H rfl (i := 3) rfl rfl ag30 | exact RX.loadAgg H rfl (i := 4) rfl rfl ag30 | exact RX.loadAgg H rfl (i := 5) rfl rfl ag30 | exact RX.loadAgg H rfl (i := 6) rfl rfl ag30) ?_
                  refine JL.does trivial (EX.call rfl cl13 rfl ((listOf_b H hx.cons.cons.cons.cons.cons))) ?_
                  rintro _ w ⟨lp2, lc2, ls2, rfl, hol2, H⟩
                  replace H := (H.pull 4 rfl).pull 4 rfl
                  refine JL.does trivial (EX.call rfl cl14 rfl ((List_c ⟨p, c, s, ho, H⟩ (hE.at_ 3 (by decide) (by decide)).cons.cons.cons.cons hol2.slAt hpk (by omega) (by omega)))) ?_
                  rintro _ w h
                  simp only [if_pos hsm] at h
                  obtain ⟨rfl, p, c, s, ho, H⟩ := h
                  refine JL.does trivial (EX.call rfl cl21 rfl ((Num_b H (n := 0) hE.cons.cons.cons.cons.cons.cons (by decide)))) ?_
                  rintro _ w ⟨rfl, H⟩
                  refine JL.go trivial (RX.movev (v := Value.int _ _) rfl) ?_
                  refine JL.go trivial (RX.eq rfl rfl) ?_
                  refine JL.go trivial (RX.assignv (v := Value.slice _ _ _) rfl) ?_
                  refine JL.go trivial (RX.assignv (v := Value.bool _) rfl) ?_
                  refine JL.nil ?_
                  refine J.ret2 (v := Value.slice _ _ _) (x := Value.bool _) Tryd.func10 rfl rfl rfl ?_
                  rw [vf6 h6]
                  exact ⟨_, rfl, p, c, s, q, qc, qs, rfl, hoq, ho, (((((H.pull 2 rfl).drop).pull 3 rfl).drop).pull 3 rfl).drop⟩
                · skip
                  refine J.seq ?_
                  refine J.region ?_
                  refine JL.go trivial (RX.eq rfl rfl) ?_
                  refine JL.go trivial (RX.assignv (v := Value.bool _) rfl) ?_
                  refine JL.nil ?_
                  refine J.cond_d rfl (fun h7 => ?_) (fun h7 => ?_)
                  · skip
                    refine J.seq ?_
                    refine J.region ?_
                    refine JL.go trivial (by first | exact RX.loadAgg H rfl (i := 0) rfl rfl ag30 | exact RX.loadAgg H rfl (i := 1) rfl rfl ag30 | exact RX.loadAgg H rfl (i := 2) rfl rfl ag30 | exact RX.loadAgg H rfl (i := 3) rfl rfl ag30 | exact RX.loadAgg H rfl (i := 4) rfl rfl ag30 | exact RX.loadAgg H rfl (i := 5) rfl rfl ag30 | exact RX.loadAgg H rfl (i := 6) rfl rfl ag30) ?_
                    refine JL.does trivial (EX.call rfl cl52 rfl ((floatsOf_b H hx.cons.cons.cons))) ?_
                    rintro _ w ⟨lp1, lc1, ls1, rfl, hol1, H⟩
                    have hsm : x.list.length ≤ 1048576 := by omega
                    have hpk : ∀ q ∈ x.list, u64ok q := hx.kb
                    refine JL.does trivial (EX.call rfl cl51 rfl ((rFloats_b H hol1.slAt hpk (by omega)))) ?_
                    rintro _ w h
                    simp only [if_pos hsm] at h
                    obtain ⟨q, qc, qs, rfl, hoq, H⟩ := h
                    refine JL.go trivial (RX.movev (v := Value.tuple _) rfl) ?_
                    refine JL.go trivial (RX.extract rfl rfl) ?_
                    refine JL.go trivial (RX.extract rfl rfl) ?_
                    refine JL.go trivial (RX.assignv (v := Value.slice _ _ _) rfl) ?_
                    refine JL.go trivial (RX.assignv (v := Value.int _ _) rfl) ?_
                    refine JL.nil ?_
                    refine J.seq ?_
                    refine J.region ?_
                    refine JL.go trivial (RX.movev (v := Value.slice _ _ _) rfl) ?_
                    refine JL.go trivial (RX.movev (v := Value.pointer _) rfl) ?_
                    refine JL.go trivial (by first | exact RX.loadAgg H rfl (i := 0) rfl rfl ag30 | exact RX.loadAgg H rfl (i := 1) rfl rfl ag30 | exact RX.loadAgg H rfl (i := 2) rfl rfl ag30 | exact RX.loadAgg H rfl (i := 3) rfl rfl ag30 | exact RX.loadAgg H rfl (i := 4) rfl rfl ag30 | exact RX.loadAgg H rfl (i := 5) rfl rfl ag30 | exact RX.loadAgg H rfl (i := 6) rfl rfl ag30) ?_
                    refine JL.does trivial (EX.call rfl cl52 rfl ((floatsOf_b H hx.cons.cons.cons.cons.cons))) ?_
                    rintro _ w ⟨lp2, lc2, ls2, rfl, hol2, H⟩
                    replace H := (H.pull 4 rfl).pull 4 rfl
                    refine JL.does trivial (EX.call rfl cl37 rfl ((Floats_c ⟨p, c, s, ho, H⟩ (hE.at_ 3 (by decide) (by decide)).cons.cons.cons.cons hol2.slAt hpk (by omega) (by omega)))) ?_
                    rintro _ w h
                    simp only [if_pos hsm] at h
                    obtain ⟨rfl, p, c, s, ho, H⟩ := h
                    refine JL.does trivial (EX.call rfl cl21 rfl ((Num_b H (n := 0) hE.cons.cons.cons.cons.cons.cons (by decide)))) ?_
                    rintro _ w ⟨rfl, H⟩
                    refine JL.go trivial (RX.movev (v := Value.int _ _) rfl) ?_
                    refine JL.go trivial (RX.eq rfl rfl) ?_
                    refine JL.go trivial (RX.assignv (v := Value.slice _ _ _) rfl) ?_
                    refine JL.go trivial (RX.assignv (v := Value.bool _) rfl) ?_
                    refine JL.nil ?_
                    refine J.ret2 (v := Value.slice _ _ _) (x := Value.bool _) Tryd.func10 rfl rfl rfl ?_
                    rw [vf7 h7]
                    exact ⟨_, rfl, p, c, s, q, qc, qs, rfl, hoq, ho, (((((H.pull 2 rfl).drop).pull 3 rfl).drop).pull 3 rfl).drop⟩
                  · skip
                    refine J.skip ?_
                    refine J.inBlock ?_
                    refine J.seq ?_
                    refine J.region ?_
                    refine JL.go trivial (RX.assign) ?_
                    refine JL.go trivial (RX.assign) ?_
                    refine JL.nil ?_
                    refine J.ret2 (v := Value.slice _ _ _) (x := Value.bool _) Tryd.func10 rfl rfl rfl ?_
                    rw [vf9 h0 h8 h1 h2 h3 h4 h5 h6 h7, List.append_nil]
                    exact ⟨_, rfl, p, c, s, none, 0, [], rfl, OwnSl.nil, ho, (((H.pull 2 rfl).drop.nil).pull 2 rfl).pull 2 rfl⟩

theorem lv1 : [] ++ varint 300 = [172, 2] := by
  rw [List.nil_append, varint_ge (by decide), varint_lt (by decide)]; decide
theorem lv2 : [172, 2] ++ fB 4607182418800017408 = [172, 2, 0, 0, 0, 0, 0, 0, 240, 63] := by decide
theorem lv3 : [172, 2, 0, 0, 0, 0, 0, 0, 240, 63] ++ tB ⟨#[97, 98]⟩ = [172, 2, 0, 0, 0, 0, 0, 0, 240, 63, 2, 97, 98] := by
  have : varint (ByteArray.size ⟨#[97, 98]⟩) = [2] := by rw [varint_lt (by decide)]; decide
  rw [tB, this]; rfl
def LV : List UInt8 := [172, 2, 0, 0, 0, 0, 0, 0, 240, 63, 2, 97, 98]
theorem lr1 : rU (LV.drop 0) = .ok 300 2 := by rfl
theorem lr2 : rFl (LV.drop (0 + 2)) = .ok 4607182418800017408 8 := by rfl
theorem lr3 : rTx 2 (LV.drop (0 + 2 + 8)) = .ok [97, 98] 3 := by rfl
theorem Va.clen (x : Va) : x.cells.length = 6 := rfl
def vaVs (l : List Va) : List Value := (l.map Va.cells).flatten
theorem vaVs_len (l : List Va) : (vaVs l).length = l.length * 6 := flat_len _ _ Va.clen l
theorem vaVs_read {l : List Va} {i : Nat} {x : Va} (h : l[i]? = some x) : readN (vaVs l) (i * 6) 6 = some x.cells := readN_flat Va.clen h
def bulkV (x : Va) : Nat := 1 + x.s.size + x.list.length
def tot (l : List Va) : List UInt8 := (l.map vform).flatten
theorem tot_len {F : List Seg} : ∀ l : List Va, (∀ x ∈ l, x.Ok F) → (tot l).length ≤ 20 * (l.map bulkV).sum
  | [], _ => by simp [tot]
  | x :: l, h => by
    have h1 := vform_len (h x List.mem_cons_self)
    have h2 := tot_len l (fun y hy => h y (List.mem_cons_of_mem _ hy))
    have hb : bulkV x = 1 + x.s.size + x.list.length := rfl
    unfold tot at *
    simp only [List.map_cons, List.flatten_cons, List.length_append, List.sum_cons]
    omega
theorem sum_take_le (l : List Va) (i : Nat) : ((l.take i).map bulkV).sum ≤ (l.map bulkV).sum := by
  conv => rhs; rw [← List.take_append_drop i l, List.map_append, List.sum_append]
  omega
theorem tot_snoc {l : List Va} {i : Nat} {x : Va} (h : l[i]? = some x) : tot (l.take (i + 1)) = tot (l.take i) ++ vform x := map_take_snoc vform h

theorem len_w {w0 w : World} {L : List Seg} {i b n c T : Nat} {p : Option Addr} (H : Hp w0 w L) (hi : L[i]? = some [(b, cel [.slice p n c] T)]) : Ret Tryd.prog 11 [.pointer (some ⟨b, 0, none⟩)] w fun v w' => v = .int .i64 n ∧ Hp w0 w' L := by
  refine Calls.of_J (n := 8) Tryd.func11 rfl rfl rfl ?_
  refine J.seq ?_
  refine J.region ?_
  refine JL.go trivial (RX.assign) ?_
  refine JL.nil ?_
  refine J.seq ?_
  refine J.region ?_
  refine JL.go trivial (RX.movev (v := Value.pointer _) rfl) ?_
  refine JL.go trivial (RX.nilCheck rfl) ?_
  refine JL.go trivial (RX.fieldAddr rfl fo86_0 rfl) ?_
  refine JL.go trivial (RX.load H rfl hi rfl one26) ?_
  refine JL.go trivial (RX.len_slice rfl (by rw [sl26]; rfl) rfl) ?_
  refine JL.go trivial (RX.assignv (v := Value.int _ _) rfl) ?_
  refine JL.nil ?_
  refine J.ret1 (v := Value.int _ _) Tryd.func11 rfl rfl ?_
  exact ⟨_, rfl, rfl, H⟩
theorem lives_b {w0 w : World} {F : List Seg} {E : Nat → Value} (H : Hp w0 w F) (hE : Er F E) : Ret Tryd.prog 8 [] w fun v w' => v = .bool true ∧ Hp w0 w' F := by
  refine Calls.of_J (n := 74) Tryd.func8 rfl rfl rfl ?_
  refine J.seq ?_
  refine J.region ?_
  refine JL.go trivial (RX.assign) ?_
  refine JL.nil ?_
  refine J.seq ?_
  refine J.region ?_
  refine JL.does trivial (EX.call rfl cl9 rfl ((new_w H))) ?_
  rintro _ w ⟨b, rfl, H⟩
  replace H := (H.nil).pull 1 rfl
  refine JL.go trivial (RX.assignv (v := Value.pointer _) rfl) ?_
  refine JL.nil ?_
  refine J.seq ?_
  refine J.seq ?_
  refine J.region ?_
  refine JL.go trivial (RX.movev (v := Value.pointer _) rfl) ?_
  refine JL.go trivial (RX.ptrnil_eql rfl rfl pn24) ?_
  refine JL.nil ?_
  refine J.cond_f rfl rfl ?_
  refine J.skip ?_
  refine J.seq ?_
  refine J.region ?_
  refine JL.go trivial (RX.movev (v := Value.pointer _) rfl) ?_
  refine JL.does trivial (EX.call rfl cl25 rfl ((Uint_c (xs := []) (x := 300) ⟨none, 0, [], OwnSl.nil, H⟩ (by unfold u64ok; decide) (by decide)))) ?_
  rintro _ w ⟨rfl, p, c, s, ho, H⟩
  rw [lv1] at ho H
  refine JL.nil ?_
  refine J.seq ?_
  refine J.region ?_
  refine JL.go trivial (RX.movev (v := Value.pointer _) rfl) ?_
  refine JL.does trivial (EX.call rfl cl29 rfl ((Float_c (x := 4607182418800017408) ⟨p, c, s, ho, H⟩ (by unfold u64ok; decide) (by decide)))) ?_
  rintro _ w ⟨rfl, p, c, s, ho, H⟩
  rw [lv2] at ho H
  refine JL.nil ?_
  refine J.seq ?_
  refine J.region ?_
  refine JL.go trivial (RX.movev (v := Value.pointer _) rfl) ?_
  refine JL.does trivial (EX.call rfl cl35 rfl ((Text_c (str := ⟨#[97, 98]⟩) ⟨p, c, s, ho, H⟩ (by decide) (by decide)))) ?_
  rintro _ w ⟨rfl, p, c, s, ho, H⟩
  rw [lv3] at ho H
  change OwnSl _ _ _ LV.length _ (bv LV) _ at ho
  change Hp _ _ ([(b, cel [.slice p LV.length c] _)] :: s :: F) at H
  refine JL.nil ?_
  refine J.seq ?_
  refine J.seq ?_
  refine J.region ?_
  refine JL.go trivial (RX.movev (v := Value.pointer _) rfl) ?_
  refine JL.does trivial (EX.call rfl cl12 rfl ((out_w H ho (by decide)))) ?_
  rintro _ w ⟨q, qc, qs, rfl, hoq, H⟩
  refine JL.go trivial (RX.b2s (l := LV) H rfl hoq.slAt sl26 ud5 ud9) ?_
  refine JL.go trivial (RX.str_neq rfl rfl) ?_
  refine JL.go trivial (RX.movev (v := Value.bool _) rfl) ?_
  refine JL.go ⟨_, rfl, (decide_eq_false (fun h => h rfl))⟩ (RX.movev (v := Value.pointer _) rfl) ?_
  refine JL.does ⟨_, rfl, (decide_eq_false (fun h => h rfl))⟩ (EX.call rfl cl11 rfl ((len_w (i := 1) H rfl))) ?_
  rintro _ w ⟨rfl, H⟩
  refine JL.go ⟨_, rfl, (decide_eq_false (fun h => h rfl))⟩ (RX.ne rfl rfl) ?_
  refine JL.go trivial (RX.pick_f rfl (decide_eq_false (fun h => h rfl))) ?_
  refine JL.nil ?_
  refine J.cond_f rfl (decide_eq_false (fun h => h rfl)) ?_
  refine J.skip ?_
  refine J.seq ?_
  refine J.region ?_
  replace H := H.drop
  refine JL.go trivial (RX.movev (v := Value.pointer _) rfl) ?_
  refine JL.does trivial (EX.call rfl cl12 rfl ((out_w H ho (by decide)))) ?_
  rintro _ w ⟨q, qc, qs, rfl, hoq, H⟩
  refine JL.does trivial (EX.call rfl cl15 rfl ((read_r H hoq.slAt (by decide)))) ?_
  rintro _ w ⟨rb, rp, rc, rs, rfl, hor, H⟩
  refine JL.go trivial (RX.assignv (v := Value.pointer _) rfl) ?_
  refine JL.nil ?_
  refine J.seq ?_
  refine J.seq ?_
  refine J.region ?_
  refine JL.go trivial (RX.movev (v := Value.pointer _) rfl) ?_
  refine JL.go trivial (RX.ptrnil_eql rfl rfl pn42) ?_
  refine JL.nil ?_
  refine J.cond_f rfl rfl ?_
  refine J.skip ?_
  refine J.seq ?_
  refine J.region ?_
  refine JL.go trivial (RX.movev (v := Value.pointer _) rfl) ?_
  refine JL.does trivial (EX.call rfl cl24 rfl ((rUint_c (at_ := 0) H hor (by decide) (by decide) hE.cons.cons.cons))) ?_
  rintro _ w ⟨rfl, H⟩
  rw [lr1] at H ⊢
  simp only [Rs.val_ok, Rs.k_ok, Rs.code_ok, Rs.val_err, Rs.k_err, Rs.code_err] at H ⊢
  refine JL.go trivial (RX.movev (v := Value.tuple _) rfl) ?_
  refine JL.go trivial (RX.extract rfl rfl) ?_
  refine JL.go trivial (RX.extract (v := errV E 0) rfl rfl) ?_
  refine JL.go trivial (RX.assignv (v := Value.int _ _) rfl) ?_
  refine JL.go trivial (RX.assignv (v := errV E 0) rfl) ?_
  refine JL.nil ?_
  refine J.seq ?_
  refine J.region ?_
  refine JL.go trivial (RX.movev (v := Value.pointer _) rfl) ?_
  refine JL.does trivial (EX.call rfl cl28 rfl ((rFloat_c (at_ := 0 + 2) H hor (by decide) (by decide) hE.cons.cons.cons))) ?_
  rintro _ w ⟨rfl, H⟩
  rw [lr2] at H ⊢
  simp only [Rs.val_ok, Rs.k_ok, Rs.code_ok, Rs.val_err, Rs.k_err, Rs.code_err] at H ⊢
  refine JL.go trivial (RX.movev (v := Value.tuple _) rfl) ?_
  refine JL.go trivial (RX.extract rfl rfl) ?_
  refine JL.go trivial (RX.extract (v := errV E 0) rfl rfl) ?_
  refine JL.go trivial (RX.assignv (v := Value.float _ _) rfl) ?_
  refine JL.go trivial (RX.assignv (v := errV E 0) rfl) ?_
  refine JL.nil ?_
  refine J.seq ?_
  refine J.region ?_
  refine JL.go trivial (RX.movev (v := Value.pointer _) rfl) ?_
  refine JL.does trivial (EX.call rfl cl34 rfl ((rText_c (at_ := 0 + 2 + 8) H hor (by decide) (by decide) hE.cons.cons.cons (most := 2) (by decide) (by decide)))) ?_
  rintro _ w ⟨rfl, H⟩
  rw [lr3] at H ⊢
  simp only [Rs.val_ok, Rs.k_ok, Rs.code_ok, Rs.val_err, Rs.k_err, Rs.code_err] at H ⊢
  refine JL.go trivial (RX.movev (v := Value.tuple _) rfl) ?_
  refine JL.go trivial (RX.extract rfl rfl) ?_
  refine JL.go trivial (RX.extract (v := errV E 0) rfl rfl) ?_
  refine JL.go trivial (RX.assignv (v := Value.string _) rfl) ?_
  refine JL.go trivial (RX.assignv (v := errV E 0) rfl) ?_
  refine JL.nil ?_
  refine J.seq ?_
  refine J.region ?_
  refine JL.go trivial (RX.movev (v := Value.int _ _) rfl) ?_
  refine JL.go trivial (RX.eq rfl rfl) ?_
  refine JL.go trivial (RX.movev (v := Value.bool _) rfl) ?_
  refine JL.go ⟨_, rfl, (decide_eq_true rfl)⟩ (RX.movev (v := errV E 0) rfl) ?_
  refine JL.go ⟨_, rfl, (decide_eq_true rfl)⟩ (RX.ifnil_eql (v := errV E 0) rfl rfl rfl if40) ?_
  refine JL.go trivial (RX.pick_t rfl (decide_eq_true rfl)) ?_
  refine JL.go trivial (RX.movev (v := Value.bool _) rfl) ?_
  refine JL.go ⟨_, rfl, rfl⟩ (RX.movev (v := Value.float _ _) rfl) ?_
  refine JL.go ⟨_, rfl, rfl⟩ (RX.feq rfl rfl) ?_
  refine JL.go trivial (RX.pick_t rfl rfl) ?_
  refine JL.go trivial (RX.movev (v := Value.bool _) rfl) ?_
  refine JL.go ⟨_, rfl, (by decide)⟩ (RX.movev (v := errV E 0) rfl) ?_
  refine JL.go ⟨_, rfl, (by decide)⟩ (RX.ifnil_eql (v := errV E 0) rfl rfl rfl if40) ?_
  refine JL.go trivial (RX.pick_t rfl (by decide)) ?_
  refine JL.go trivial (RX.movev (v := Value.bool _) rfl) ?_
  refine JL.go ⟨_, rfl, rfl⟩ (RX.movev (v := Value.string _) rfl) ?_
  refine JL.go ⟨_, rfl, rfl⟩ (RX.str_eql rfl rfl) ?_
  refine JL.go trivial (RX.pick_t rfl rfl) ?_
  refine JL.go trivial (RX.movev (v := Value.bool _) rfl) ?_
  refine JL.go ⟨_, rfl, (decide_eq_true rfl)⟩ (RX.movev (v := errV E 0) rfl) ?_
  refine JL.go ⟨_, rfl, (decide_eq_true rfl)⟩ (RX.ifnil_eql (v := errV E 0) rfl rfl rfl if40) ?_
  refine JL.go trivial (RX.pick_t rfl (decide_eq_true rfl)) ?_
  refine JL.go trivial (RX.movev (v := Value.bool _) rfl) ?_
  refine JL.go ⟨_, rfl, rfl⟩ (RX.movev (v := Value.pointer _) rfl) ?_
  refine JL.does ⟨_, rfl, rfl⟩ (EX.call rfl cl22 rfl ((done_r (at_ := 0 + 2 + 8 + 3) H hor (by decide) (by decide) hE.cons.cons.cons.g4))) ?_
  rintro _ w ⟨rfl, H⟩
  refine JL.go ⟨_, rfl, rfl⟩ (RX.ifnil_eql (v := (if 0 + 2 + 8 + 3 < LV.length then E 4 else .nilIface)) rfl rfl rfl if40) ?_
  refine JL.go trivial (RX.pick_t rfl rfl) ?_
  refine JL.go trivial (RX.assignv (v := Value.bool _) rfl) ?_
  refine JL.nil ?_
  refine J.ret1 (v := Value.bool _) Tryd.func8 rfl rfl ?_
  exact ⟨_, rfl, rfl, H.drop.drop.drop.drop.drop⟩
end Go.Proofs.YtippfdnjhcpekaaDoor
