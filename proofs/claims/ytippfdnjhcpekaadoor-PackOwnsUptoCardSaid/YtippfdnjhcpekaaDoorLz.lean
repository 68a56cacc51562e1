/- A value read again, or cut short. -/
import Derived.Test.YtippfdnjhcpekaaDoorLy
namespace Go.Proofs.YtippfdnjhcpekaaDoor
open Go Go.Eng
set_option maxRecDepth 100000
set_option linter.unusedVariables false
set_option linter.unusedSimpArgs false
theorem str_back (s : ByteArray) : (⟨s.data.toList.toArray⟩ : ByteArray) = s := by cases s; simp
theorem canN_eq (q : Nat × Nat) : canon32 (canN q).1 = canon32 q.1 ∧ canon32 (canN q).2 = canon32 q.2 := ⟨canon32_canon32 _, canon32_canon32 _⟩
theorem canC_eq (q : Nat × Nat) : canon (canC q).1 = canon q.1 ∧ canon (canC q).2 = canon q.2 := ⟨canon_canon _, canon_canon _⟩
theorem canC_ok {q : Nat × Nat} (h : u64ok q.1 ∧ u64ok q.2) : u64ok (canC q).1 ∧ u64ok (canC q).2 := ⟨canon_ok h.1, canon_ok h.2⟩
theorem pairs_ok {F : List Seg} {x : Va} (hx : x.Ok F) : ∀ q ∈ pairs x.list, u64ok q.1 ∧ u64ok q.2 := fun q hq => ⟨hx.kb _ (pairs_mem _ _ hq).1, hx.kb _ (pairs_mem _ _ hq).2⟩
theorem pairs_small {F : List Seg} {x : Va} (hx : x.Ok F) : (pairs x.list).length ≤ 1048576 := by have := hx.kl; rw [pairs_len]; omega
theorem back_b {w0 w : World} {F : List Seg} {b T c at_ : Nat} {p : Option Addr} {s : Seg} {bs : List UInt8} {E : Nat → Value} {Q : Nat → Addr} (H : Hp w0 w ([(b, cel [.slice p bs.length c, .int .i64 (at_ : Nat)] T)] :: s :: F)) (ho : OwnSl 5 1 p bs.length c (bv bs) s) (hat : at_ ≤ bs.length) (hl : bs.length ≤ 1099511627776) (hE : Errs F E Q) {x : Va} (hx : x.Ok F) {post : List UInt8} (hd : bs.drop at_ = vform x ++ post) : Ret Tryd.prog 39 [.pointer (some ⟨b, 0, none⟩), .agg x.cells.toArray] w fun v w' => v = .bool true ∧ Hp w0 w' ([(b, cel [.slice p bs.length c, .int .i64 (at_ + (vform x).length : Nat)] T)] :: s :: F) := by
  refine Calls.of_J (n := 189) Tryd.func39 rfl rfl rfl ?_
  refine J.seq ?_
  refine J.region ?_
  refine JL.does trivial (EX.box (v := Value.agg _) H rfl rfl) ?_
  rintro _ w ⟨b3, rfl, H⟩
  refine JL.go trivial (RX.assign) ?_
  refine JL.nil ?_
  replace H := (H.pull 2 rfl).pull 2 rfl
  have hks := hx.ks
  have hkl := hx.kl
  refine J.seq ?_
  refine J.seq ?_
  skip
  refine J.region ?_
  refine JL.go trivial (RX.fieldAddr rfl fo30_0 rfl) ?_
  refine JL.go trivial (by first | exact RX.load H rfl (i := 0) rfl rfl one3 | exact RX.load H rfl (i := 1) rfl rfl one3 | exact RX.load H rfl (i := 2) rfl rfl one3 | exact RX.load H rfl (i := 3) rfl rfl one3 | exact RX.load H rfl (i := 4) rfl rfl one3 | exact RX.load H rfl (i := 5) rfl rfl one3) ?_
  refine JL.nil ?_
  refine J.block ?_
  refine J.seq ?_
  refine J.region ?_
  refine JL.go trivial (RX.eq rfl rfl) ?_
  refine JL.go trivial (RX.assignv (v := Value.bool _) rfl) ?_
  refine JL.nil ?_
  refine J.cond_d rfl (fun h0 => ?_) (fun h0 => ?_)
  · skip
    have hS : rU (bs.drop at_) = .ok x.u (vform x).length := by rw [hd, vf0 (.inl h0)]; exact rU_w hx.ku _
    refine J.seq ?_
    refine J.region ?_
    refine JL.go trivial (RX.movev (v := Value.pointer _) rfl) ?_
    refine JL.does trivial (EX.call rfl cl24 rfl ((rUint_c H ho hat hl hE.cons))) ?_
    rintro _ w ⟨rfl, H⟩
    rw [hS] at H ⊢
    simp only [Rs.val_ok, Rs.k_ok, Rs.code_ok, Rs.val_err, Rs.k_err, Rs.code_err] at H ⊢
    refine JL.go trivial (RX.movev (v := Value.tuple _) rfl) ?_
    refine JL.go trivial (RX.extract rfl rfl) ?_
    refine JL.go trivial (RX.extract (v := errV E 0) rfl rfl) ?_
    refine JL.go trivial (RX.assignv (v := Value.int _ _) rfl) ?_
    refine JL.go trivial (RX.assignv (v := errV E 0) rfl) ?_
    refine JL.nil ?_
    refine J.seq ?_
    refine J.region ?_
    refine JL.go trivial (RX.movev (v := errV E 0) rfl) ?_
    refine JL.go trivial (RX.ifnil_eql (v := errV E 0) rfl rfl rfl if40) ?_
    refine JL.go trivial (RX.movev (v := Value.bool _) rfl) ?_
    refine JL.go ⟨_, rfl, rfl⟩ (RX.movev (v := Value.int _ _) rfl) ?_
    refine JL.go ⟨_, rfl, rfl⟩ (RX.fieldAddr rfl fo30_1 rfl) ?_
    refine JL.go ⟨_, rfl, rfl⟩ (by first | exact RX.load H rfl (i := 0) rfl rfl one27 | exact RX.load H rfl (i := 1) rfl rfl one27 | exact RX.load H rfl (i := 2) rfl rfl one27 | exact RX.load H rfl (i := 3) rfl rfl one27 | exact RX.load H rfl (i := 4) rfl rfl one27 | exact RX.load H rfl (i := 5) rfl rfl one27) ?_
    refine JL.go ⟨_, rfl, rfl⟩ (RX.eq rfl rfl) ?_
    refine JL.go trivial (RX.pick_t rfl rfl) ?_
    refine JL.go trivial (RX.assignv (v := Value.bool _) rfl) ?_
    refine JL.nil ?_
    refine J.ret1 (v := Value.bool _) Tryd.func39 rfl rfl ?_
    exact ⟨_, rfl, by simp, (H.pull 2 rfl).drop⟩
  · skip
    refine J.seq ?_
    refine J.region ?_
    refine JL.go trivial (RX.eq rfl rfl) ?_
    refine JL.go trivial (RX.assignv (v := Value.bool _) rfl) ?_
    refine JL.nil ?_
    refine J.cond_d rfl (fun h1 => ?_) (fun h1 => ?_)
    · skip
      have hS : rI (bs.drop at_) = .ok (toI x.u) (vform x).length := by rw [hd, vf1 h1]; exact rI_w (toI_in hx.ku).1 (toI_in hx.ku).2 _
      refine J.seq ?_
      refine J.region ?_
      refine JL.go trivial (RX.movev (v := Value.pointer _) rfl) ?_
      refine JL.does trivial (EX.call rfl cl26 rfl ((rInt_c H ho hat hl hE.cons))) ?_
      rintro _ w ⟨rfl, H⟩
      rw [hS] at H ⊢
      simp only [Rs.val_ok, Rs.k_ok, Rs.code_ok, Rs.val_err, Rs.k_err, Rs.code_err] at H ⊢
      refine JL.go trivial (RX.movev (v := Value.tuple _) rfl) ?_
      refine JL.go trivial (RX.extract rfl rfl) ?_
      refine JL.go trivial (RX.extract (v := errV E 0) rfl rfl) ?_
      refine JL.go trivial (RX.assignv (v := Value.int _ _) rfl) ?_
      refine JL.go trivial (RX.assignv (v := errV E 0) rfl) ?_
      refine JL.nil ?_
      refine J.seq ?_
      refine J.region ?_
      refine JL.go trivial (RX.movev (v := errV E 0) rfl) ?_
      refine JL.go trivial (RX.ifnil_eql (v := errV E 0) rfl rfl rfl if40) ?_
      refine JL.go trivial (RX.movev (v := Value.bool _) rfl) ?_
      refine JL.go ⟨_, rfl, rfl⟩ (RX.movev (v := Value.int _ _) rfl) ?_
      refine JL.go ⟨_, rfl, rfl⟩ (RX.fieldAddr rfl fo30_1 rfl) ?_
      refine JL.go ⟨_, rfl, rfl⟩ (by first | exact RX.load H rfl (i := 0) rfl rfl one27 | exact RX.load H rfl (i := 1) rfl rfl one27 | exact RX.load H rfl (i := 2) rfl rfl one27 | exact RX.load H rfl (i := 3) rfl rfl one27 | exact RX.load H rfl (i := 4) rfl rfl one27 | exact RX.load H rfl (i := 5) rfl rfl one27) ?_
      refine JL.go ⟨_, rfl, rfl⟩ (RX.conv rfl (by rw [ki27]; rfl) ki2 (toI_run hx.ku)) ?_
      refine JL.go ⟨_, rfl, rfl⟩ (RX.eq rfl rfl) ?_
      refine JL.go trivial (RX.pick_t rfl rfl) ?_
      refine JL.go trivial (RX.assignv (v := Value.bool _) rfl) ?_
      refine JL.nil ?_
      refine J.ret1 (v := Value.bool _) Tryd.func39 rfl rfl ?_
      exact ⟨_, rfl, by simp, (H.pull 2 rfl).drop⟩
    · skip
      refine J.seq ?_
      refine J.region ?_
      refine JL.go trivial (RX.eq rfl rfl) ?_
      refine JL.go trivial (RX.assignv (v := Value.bool _) rfl) ?_
      refine JL.nil ?_
      refine J.cond_d rfl (fun h2 => ?_) (fun h2 => ?_)
      · skip
        have hS : rFl (bs.drop at_) = .ok (canon x.u) (vform x).length := by rw [hd, vf2 h2]; rw [rFl_w hx.ku, fB_len]
        refine J.seq ?_
        refine J.region ?_
        refine JL.go trivial (RX.movev (v := Value.pointer _) rfl) ?_
        refine JL.does trivial (EX.call rfl cl28 rfl ((rFloat_c H ho hat hl hE.cons))) ?_
        rintro _ w ⟨rfl, H⟩
        rw [hS] at H ⊢
        simp only [Rs.val_ok, Rs.k_ok, Rs.code_ok, Rs.val_err, Rs.k_err, Rs.code_err] at H ⊢
        refine JL.go trivial (RX.movev (v := Value.tuple _) rfl) ?_
        refine JL.go trivial (RX.extract rfl rfl) ?_
        refine JL.go trivial (RX.extract (v := errV E 0) rfl rfl) ?_
        refine JL.go trivial (RX.assignv (v := Value.float _ _) rfl) ?_
        refine JL.go trivial (RX.assignv (v := errV E 0) rfl) ?_
        refine JL.nil ?_
        refine J.seq ?_
        refine J.region ?_
        refine JL.go trivial (RX.movev (v := errV E 0) rfl) ?_
        refine JL.go trivial (RX.ifnil_eql (v := errV E 0) rfl rfl rfl if40) ?_
        refine JL.go trivial (RX.movev (v := Value.bool _) rfl) ?_
        refine JL.go ⟨_, rfl, rfl⟩ (RX.movev (v := Value.float _ _) rfl) ?_
        refine JL.go ⟨_, rfl, rfl⟩ (RX.fieldAddr rfl fo30_1 rfl) ?_
        refine JL.go ⟨_, rfl, rfl⟩ (by first | exact RX.load H rfl (i := 0) rfl rfl one27 | exact RX.load H rfl (i := 1) rfl rfl one27 | exact RX.load H rfl (i := 2) rfl rfl one27 | exact RX.load H rfl (i := 3) rfl rfl one27 | exact RX.load H rfl (i := 4) rfl rfl one27 | exact RX.load H rfl (i := 5) rfl rfl one27) ?_
        refine JL.does ⟨_, rfl, rfl⟩ (EX.call rfl cl43 rfl ((of_b H))) ?_
        rintro _ w ⟨rfl, H⟩
        refine JL.does ⟨_, rfl, rfl⟩ (EX.call rfl cl61 rfl ((same61_t H (canon_ok hx.ku) hx.ku (canon_canon _)))) ?_
        rintro _ w ⟨rfl, H⟩
        refine JL.go trivial (RX.pick_t rfl rfl) ?_
        refine JL.go trivial (RX.assignv (v := Value.bool _) rfl) ?_
        refine JL.nil ?_
        refine J.ret1 (v := Value.bool _) Tryd.func39 rfl rfl ?_
        exact ⟨_, rfl, by simp, (H.pull 2 rfl).drop⟩
      · skip
        refine J.seq ?_
        refine J.region ?_
        refine JL.go trivial (RX.eq rfl rfl) ?_
        refine JL.go trivial (RX.assignv (v := Value.bool _) rfl) ?_
        refine JL.nil ?_
        refine J.cond_d rfl (fun h3 => ?_) (fun h3 => ?_)
        · skip
          have hS : rCo (bs.drop at_) = .ok (canC (x.u, x.v)) (vform x).length := by rw [hd, vf3 h3]; rw [rCo_w (q := (x.u, x.v)) ⟨hx.ku, hx.kv⟩, cB_len]
          refine J.seq ?_
          refine J.region ?_
          refine JL.go trivial (RX.movev (v := Value.pointer _) rfl) ?_
          refine JL.does trivial (EX.call rfl cl30 rfl ((rComplex_c H ho hat hl hE.cons))) ?_
          rintro _ w ⟨rfl, H⟩
          rw [hS] at H ⊢
          simp only [Rs.val_ok, Rs.k_ok, Rs.code_ok, Rs.val_err, Rs.k_err, Rs.code_err] at H ⊢
          refine JL.go trivial (RX.movev (v := Value.tuple _) rfl) ?_
          refine JL.go trivial (RX.extract rfl rfl) ?_
          refine JL.go trivial (RX.extract (v := errV E 0) rfl rfl) ?_
          refine JL.go trivial (RX.assignv (v := Value.complex _ _ _) rfl) ?_
          refine JL.go trivial (RX.assignv (v := errV E 0) rfl) ?_
          refine JL.nil ?_
          refine J.seq ?_
          refine J.region ?_
          refine JL.go trivial (RX.movev (v := errV E 0) rfl) ?_
          refine JL.go trivial (RX.ifnil_eql (v := errV E 0) rfl rfl rfl if40) ?_
          refine JL.go trivial (RX.movev (v := Value.bool _) rfl) ?_
          refine JL.go ⟨_, rfl, rfl⟩ (RX.movev (v := Value.complex _ _ _) rfl) ?_
          refine JL.go ⟨_, rfl, rfl⟩ (by first | exact RX.loadAgg H rfl (i := 0) rfl rfl ag30 | exact RX.loadAgg H rfl (i := 1) rfl rfl ag30 | exact RX.loadAgg H rfl (i := 2) rfl rfl ag30 | exact RX.loadAgg H rfl (i := 3) rfl rfl ag30 | exact RX.loadAgg H rfl (i := 4) rfl rfl ag30 | exact RX.loadAgg H rfl (i := 5) rfl rfl ag30) ?_
          refine JL.does ⟨_, rfl, rfl⟩ (EX.call rfl cl45 rfl ((complexOf_b H))) ?_
          rintro _ w ⟨rfl, H⟩
          refine JL.does ⟨_, rfl, rfl⟩ (EX.call rfl cl54 rfl ((same_t (a := canC (x.u, x.v)) (b := (x.u, x.v)) H (canC_ok ⟨hx.ku, hx.kv⟩) ⟨hx.ku, hx.kv⟩ (canC_eq _)))) ?_
          rintro _ w ⟨rfl, H⟩
          refine JL.go trivial (RX.pick_t rfl rfl) ?_
          refine JL.go trivial (RX.assignv (v := Value.bool _) rfl) ?_
          refine JL.nil ?_
          refine J.ret1 (v := Value.bool _) Tryd.func39 rfl rfl ?_
          exact ⟨_, rfl, by simp, (H.pull 2 rfl).drop⟩
        · skip
          refine J.seq ?_
          refine J.region ?_
          refine JL.go trivial (RX.eq rfl rfl) ?_
          refine JL.go trivial (RX.assignv (v := Value.bool _) rfl) ?_
          refine JL.nil ?_
          refine J.cond_d rfl (fun h4 => ?_) (fun h4 => ?_)
          · skip
            have hS : rNa (bs.drop at_) = .ok (canN (lo32 x.u, lo32 x.v)) (vform x).length := by rw [hd, vf4 h4]; rw [rNa_w (q := (lo32 x.u, lo32 x.v)) ⟨lo32_ok _, lo32_ok _⟩, nB_len]
            refine J.seq ?_
            refine J.region ?_
            refine JL.go trivial (RX.movev (v := Value.pointer _) rfl) ?_
            refine JL.does trivial (EX.call rfl cl32 rfl ((rNarrow_c H ho hat hl hE.cons))) ?_
            rintro _ w ⟨rfl, H⟩
            rw [hS] at H ⊢
            simp only [Rs.val_ok, Rs.k_ok, Rs.code_ok, Rs.val_err, Rs.k_err, Rs.code_err] at H ⊢
            refine JL.go trivial (RX.movev (v := Value.tuple _) rfl) ?_
            refine JL.go trivial (RX.extract rfl rfl) ?_
            refine JL.go trivial (RX.extract (v := errV E 0) rfl rfl) ?_
            refine JL.go trivial (RX.assignv (v := Value.complex _ _ _) rfl) ?_
            refine JL.go trivial (RX.assignv (v := errV E 0) rfl) ?_
            refine JL.nil ?_
            refine J.seq ?_
            refine J.region ?_
            refine JL.go trivial (RX.movev (v := errV E 0) rfl) ?_
            refine JL.go trivial (RX.ifnil_eql (v := errV E 0) rfl rfl rfl if40) ?_
            refine JL.go trivial (RX.movev (v := Value.bool _) rfl) ?_
            refine JL.go ⟨_, rfl, rfl⟩ (RX.movev (v := Value.complex _ _ _) rfl) ?_
            refine JL.go ⟨_, rfl, rfl⟩ (by first | exact RX.loadAgg H rfl (i := 0) rfl rfl ag30 | exact RX.loadAgg H rfl (i := 1) rfl rfl ag30 | exact RX.loadAgg H rfl (i := 2) rfl rfl ag30 | exact RX.loadAgg H rfl (i := 3) rfl rfl ag30 | exact RX.loadAgg H rfl (i := 4) rfl rfl ag30 | exact RX.loadAgg H rfl (i := 5) rfl rfl ag30) ?_
            refine JL.does ⟨_, rfl, rfl⟩ (EX.call rfl cl47 rfl ((narrowOf_b H))) ?_
            rintro _ w ⟨rfl, H⟩
            refine JL.does ⟨_, rfl, rfl⟩ (EX.call rfl cl64 rfl ((same32_t (a := canN (lo32 x.u, lo32 x.v)) (b := (lo32 x.u, lo32 x.v)) H (canN_eq _).1 (canN_eq _).2))) ?_
            rintro _ w ⟨rfl, H⟩
            refine JL.go trivial (RX.pick_t rfl rfl) ?_
            refine JL.go trivial (RX.assignv (v := Value.bool _) rfl) ?_
            refine JL.nil ?_
            refine J.ret1 (v := Value.bool _) Tryd.func39 rfl rfl ?_
            exact ⟨_, rfl, by simp, (H.pull 2 rfl).drop⟩
          · skip
            refine J.seq ?_
            refine J.region ?_
            refine JL.go trivial (RX.eq rfl rfl) ?_
            refine JL.go trivial (RX.assignv (v := Value.bool _) rfl) ?_
            refine JL.nil ?_
            refine J.cond_d rfl (fun h5 => ?_) (fun h5 => ?_)
            · skip
              have hS : rTx x.s.size (bs.drop at_) = .ok x.s.data.toList (vform x).length := by rw [hd, vf5 h5]; exact rTx_w (by omega) _
              refine J.seq ?_
              refine J.region ?_
              refine JL.go trivial (RX.movev (v := Value.pointer _) rfl) ?_
              refine JL.go trivial (RX.fieldAddr rfl fo30_3 rfl) ?_
              refine JL.go trivial (by first | exact RX.load H rfl (i := 0) rfl rfl one9 | exact RX.load H rfl (i := 1) rfl rfl one9 | exact RX.load H rfl (i := 2) rfl rfl one9 | exact RX.load H rfl (i := 3) rfl rfl one9 | exact RX.load H rfl (i := 4) rfl rfl one9 | exact RX.load H rfl (i := 5) rfl rfl one9) ?_
              refine JL.go trivial (RX.len_string rfl ud9 rfl) ?_
              refine JL.does trivial (EX.call rfl cl34 rfl ((rText_c (most := x.s.size) H ho hat hl hE.cons (by omega) (by omega)))) ?_
              rintro _ w ⟨rfl, H⟩
              rw [hS] at H ⊢
              simp only [Rs.val_ok, Rs.k_ok, Rs.code_ok, Rs.val_err, Rs.k_err, Rs.code_err] at H ⊢
              rw [str_back]
              refine JL.go trivial (RX.movev (v := Value.tuple _) rfl) ?_
              refine JL.go trivial (RX.extract rfl rfl) ?_
              refine JL.go trivial (RX.extract (v := errV E 0) rfl rfl) ?_
              refine JL.go trivial (RX.assignv (v := Value.string _) rfl) ?_
              refine JL.go trivial (RX.assignv (v := errV E 0) rfl) ?_
              refine JL.nil ?_
              refine J.seq ?_
              refine J.region ?_
              refine JL.go trivial (RX.movev (v := errV E 0) rfl) ?_
              refine JL.go trivial (RX.ifnil_eql (v := errV E 0) rfl rfl rfl if40) ?_
              refine JL.go trivial (RX.movev (v := Value.bool _) rfl) ?_
              refine JL.go ⟨_, rfl, rfl⟩ (RX.movev (v := Value.string _) rfl) ?_
              refine JL.go ⟨_, rfl, rfl⟩ (RX.fieldAddr rfl fo30_3 rfl) ?_
              refine JL.go ⟨_, rfl, rfl⟩ (by first | exact RX.load H rfl (i := 0) rfl rfl one9 | exact RX.load H rfl (i := 1) rfl rfl one9 | exact RX.load H rfl (i := 2) rfl rfl one9 | exact RX.load H rfl (i := 3) rfl rfl one9 | exact RX.load H rfl (i := 4) rfl rfl one9 | exact RX.load H rfl (i := 5) rfl rfl one9) ?_
              refine JL.go ⟨_, rfl, rfl⟩ (RX.str_eql rfl rfl) ?_
              refine JL.go trivial (RX.pick_t rfl rfl) ?_
              refine JL.go trivial (RX.assignv (v := Value.bool _) rfl) ?_
              refine JL.nil ?_
              refine J.ret1 (v := Value.bool _) Tryd.func39 rfl rfl ?_
              exact ⟨_, rfl, by simp, (H.pull 2 rfl).drop⟩
            · skip
              refine J.seq ?_
              refine J.region ?_
              refine JL.go trivial (RX.eq rfl rfl) ?_
              refine JL.go trivial (RX.assignv (v := Value.bool _) rfl) ?_
              refine JL.nil ?_
              refine J.cond_d rfl (fun h6 => ?_) (fun h6 => ?_)
              · skip
                have hS : rList rCo (bs.drop at_) = .ok ((pairs x.list).map canC) (vform x).length := by rw [hd, vf6 h6]; exact rCos_w (pairs_small hx) (pairs_ok hx) _
                refine J.seq ?_
                refine J.region ?_
                refine JL.go trivial (RX.movev (v := Value.pointer _) rfl) ?_
                refine JL.does trivial (EX.call rfl cl17 rfl ((rList_c H ho hat hl hE.cons))) ?_
                rintro _ w ⟨p2, c2, s2, hv, ho2, H⟩
                rw [hS] at hv ho2 H
                simp only [Rs.val_ok, Rs.k_ok, Rs.code_ok, Rs.val_err, Rs.k_err, Rs.code_err] at hv ho2 H
                subst hv
                refine JL.go trivial (RX.movev (v := Value.tuple _) rfl) ?_
                refine JL.go trivial (RX.extract rfl rfl) ?_
                refine JL.go trivial (RX.extract (v := errV E 0) rfl rfl) ?_
                refine JL.go trivial (RX.assignv (v := Value.slice _ _ _) rfl) ?_
                refine JL.go trivial (RX.assignv (v := errV E 0) rfl) ?_
                refine JL.nil ?_
                refine J.seq ?_
                refine J.region ?_
                refine JL.go trivial (RX.movev (v := errV E 0) rfl) ?_
                refine JL.go trivial (RX.ifnil_eql (v := errV E 0) rfl rfl rfl if40) ?_
                refine JL.go trivial (RX.movev (v := Value.bool _) rfl) ?_
                refine JL.go ⟨_, rfl, rfl⟩ (RX.movev (v := Value.slice _ _ _) rfl) ?_
                refine JL.go ⟨_, rfl, rfl⟩ (by first | exact RX.loadAgg H rfl (i := 0) rfl rfl ag30 | exact RX.loadAgg H rfl (i := 1) rfl rfl ag30 | exact RX.loadAgg H rfl (i := 2) rfl rfl ag30 | exact RX.loadAgg H rfl (i := 3) rfl rfl ag30 | exact RX.loadAgg H rfl (i := 4) rfl rfl ag30 | exact RX.loadAgg H rfl (i := 5) rfl rfl ag30) ?_
                refine JL.does ⟨_, rfl, rfl⟩ (EX.call rfl cl13 rfl ((listOf_b H hx.cons.cons.cons.cons))) ?_
                rintro _ w ⟨lp1, lc1, ls1, rfl, hol1, H⟩
                have hsl := pairs_small hx
                refine JL.does ⟨_, rfl, rfl⟩ (EX.call rfl cl16 rfl ((sameList_t H ho2.slAt.cons hol1.slAt (fun q hq => (by obtain ⟨r, hr, rfl⟩ := List.mem_map.1 hq; exact canC_ok (pairs_ok hx r hr))) (pairs_ok hx) (by simp) (by simp; omega) (fun i q r hq hr => by rw [List.getElem?_map, hr] at hq; cases hq; exact canC_eq _)))) ?_
                rintro _ w ⟨rfl, H⟩
                refine JL.go trivial (RX.pick_t rfl rfl) ?_
                refine JL.go trivial (RX.assignv (v := Value.bool _) rfl) ?_
                refine JL.nil ?_
                refine J.ret1 (v := Value.bool _) Tryd.func39 rfl rfl ?_
                exact ⟨_, rfl, rfl, (H.drop.drop.pull 2 rfl).drop⟩
              · skip
                refine J.seq ?_
                refine J.region ?_
                refine JL.go trivial (RX.eq rfl rfl) ?_
                refine JL.go trivial (RX.assignv (v := Value.bool _) rfl) ?_
                refine JL.nil ?_
                refine J.cond_d rfl (fun h7 => ?_) (fun h7 => ?_)
                · skip
                  have hS : rList rFl (bs.drop at_) = .ok (x.list.map canon) (vform x).length := by rw [hd, vf7 h7]; exact rFls_w hx.kl hx.kb _
                  refine J.seq ?_
                  refine J.region ?_
                  refine JL.go trivial (RX.movev (v := Value.pointer _) rfl) ?_
                  refine JL.does trivial (EX.call rfl cl36 rfl ((rFloats_c H ho hat hl hE.cons))) ?_
                  rintro _ w ⟨p2, c2, s2, hv, ho2, H⟩
                  rw [hS] at hv ho2 H
                  simp only [Rs.val_ok, Rs.k_ok, Rs.code_ok, Rs.val_err, Rs.k_err, Rs.code_err] at hv ho2 H
                  subst hv
                  refine JL.go trivial (RX.movev (v := Value.tuple _) rfl) ?_
                  refine JL.go trivial (RX.extract rfl rfl) ?_
                  refine JL.go trivial (RX.extract (v := errV E 0) rfl rfl) ?_
                  refine JL.go trivial (RX.assignv (v := Value.slice _ _ _) rfl) ?_
                  refine JL.go trivial (RX.assignv (v := errV E 0) rfl) ?_
                  refine JL.nil ?_
                  refine J.seq ?_
                  refine J.region ?_
                  refine JL.go trivial (RX.movev (v := errV E 0) rfl) ?_
                  refine JL.go trivial (RX.ifnil_eql (v := errV E 0) rfl rfl rfl if40) ?_
                  refine JL.go trivial (RX.movev (v := Value.bool _) rfl) ?_
                  refine JL.go ⟨_, rfl, rfl⟩ (RX.movev (v := Value.slice _ _ _) rfl) ?_
                  refine JL.go ⟨_, rfl, rfl⟩ (by first | exact RX.loadAgg H rfl (i := 0) rfl rfl ag30 | exact RX.loadAgg H rfl (i := 1) rfl rfl ag30 | exact RX.loadAgg H rfl (i := 2) rfl rfl ag30 | exact RX.loadAgg H rfl (i := 3) rfl rfl ag30 | exact RX.loadAgg H rfl (i := 4) rfl rfl ag30 | exact RX.loadAgg H rfl (i := 5) rfl rfl ag30) ?_
                  refine JL.does ⟨_, rfl, rfl⟩ (EX.call rfl cl52 rfl ((floatsOf_b H hx.cons.cons.cons.cons))) ?_
                  rintro _ w ⟨lp1, lc1, ls1, rfl, hol1, H⟩
                  have hsl := hx.kl
                  refine JL.does ⟨_, rfl, rfl⟩ (EX.call rfl cl68 rfl ((sameFloats_t H ho2.slAt.cons hol1.slAt (fun q hq => (by obtain ⟨r, hr, rfl⟩ := List.mem_map.1 hq; exact canon_ok (hx.kb r hr))) (hx.kb) (by simp) (by simp; omega) (fun i q r hq hr => by rw [List.getElem?_map, hr] at hq; cases hq; exact canon_canon _)))) ?_
                  rintro _ w ⟨rfl, H⟩
                  refine JL.go trivial (RX.pick_t rfl rfl) ?_
                  refine JL.go trivial (RX.assignv (v := Value.bool _) rfl) ?_
                  refine JL.nil ?_
                  refine J.ret1 (v := Value.bool _) Tryd.func39 rfl rfl ?_
                  exact ⟨_, rfl, rfl, (H.drop.drop.pull 2 rfl).drop⟩
                · skip
                  refine J.seq ?_
                  refine J.region ?_
                  refine JL.go trivial (RX.eq rfl rfl) ?_
                  refine JL.go trivial (RX.assignv (v := Value.bool _) rfl) ?_
                  refine JL.nil ?_
                  refine J.cond_d rfl (fun h8 => ?_) (fun h8 => ?_)
                  · skip
                    refine J.seq ?_
                    have hku := hx.ku
                    unfold u64ok at hku
                    refine J.region ?_
                    refine JL.go trivial (RX.fieldAddr rfl fo30_1 rfl) ?_
                    refine JL.go trivial (by first | exact RX.load H rfl (i := 0) rfl rfl one27 | exact RX.load H rfl (i := 1) rfl rfl one27 | exact RX.load H rfl (i := 2) rfl rfl one27 | exact RX.load H rfl (i := 3) rfl rfl one27 | exact RX.load H rfl (i := 4) rfl rfl one27 | exact RX.load H rfl (i := 5) rfl rfl one27) ?_
                    refine JL.go trivial (RX.rem rfl rfl (by decide) (r := ((x.u % 4611686018427387904 : Nat) : Int)) (Int.tmod_eq_emod_of_nonneg (by omega))) ?_
                    refine JL.go trivial (RX.conv rfl (by rw [ki27]; rfl) ki3 (w_i64 (r := ((x.u % 4611686018427387904 : Nat) : Int)) rfl (by omega) (by omega))) ?_
                    refine JL.go trivial (RX.assignv (v := Value.int _ _) rfl) ?_
                    refine JL.nil ?_
                    refine J.seq ?_
                    refine J.region ?_
                    refine JL.go trivial (RX.movev (v := Value.pointer _) rfl) ?_
                    refine JL.go trivial (RX.movev (v := Value.int _ _) rfl) ?_
                    refine JL.does trivial (EX.call rfl cl57 rfl ((rUpto_c (most := ((x.u % 4611686018427387904 : Nat) : Int)) H ho hat hl hE.cons (by omega) (by omega)))) ?_
                    rintro _ w ⟨rfl, H⟩
                    refine JL.go trivial (RX.movev (v := Value.tuple _) rfl) ?_
                    refine JL.go trivial (RX.extract rfl rfl) ?_
                    refine JL.go trivial (RX.extract (v := errV E (rUp ((x.u % 4611686018427387904 : Nat) : Int) (bs.drop at_)).code) rfl rfl) ?_
                    refine JL.go trivial (RX.assignv (v := Value.int _ _) rfl) ?_
                    refine JL.go trivial (RX.assignv (v := errV E (rUp ((x.u % 4611686018427387904 : Nat) : Int) (bs.drop at_)).code) rfl) ?_
                    refine JL.nil ?_
                    refine J.seq ?_
                    refine J.seq ?_
                    refine J.region ?_
                    refine JL.go trivial (RX.fieldAddr rfl fo30_1 rfl) ?_
                    refine JL.go trivial (by first | exact RX.load H rfl (i := 0) rfl rfl one27 | exact RX.load H rfl (i := 1) rfl rfl one27 | exact RX.load H rfl (i := 2) rfl rfl one27 | exact RX.load H rfl (i := 3) rfl rfl one27 | exact RX.load H rfl (i := 4) rfl rfl one27 | exact RX.load H rfl (i := 5) rfl rfl one27) ?_
                    refine JL.go trivial (RX.movev (v := Value.int _ _) rfl) ?_
                    refine JL.go trivial (RX.conv rfl (by rw [ki3]; rfl) ki27 (w_u64 (r := ((x.u % 4611686018427387904 : Nat) : Int)) rfl (by omega) (by omega))) ?_
                    refine JL.go trivial (RX.gt rfl rfl) ?_
                    refine JL.nil ?_
                    refine J.cond_d rfl (fun hgt => ?_) (fun hgt => ?_)
                    · skip
                      have hS : rUp ((x.u % 4611686018427387904 : Nat) : Int) (bs.drop at_) = .err 3 := by rw [hd, vf0 (.inr h8)]; exact rUp_wbig hx.ku (by omega) _
                      rw [hS] at H ⊢
                      simp only [Rs.val_ok, Rs.k_ok, Rs.code_ok, Rs.val_err, Rs.k_err, Rs.code_err] at H ⊢
                      have hSU : rU (bs.drop at_) = .ok x.u (vform x).length := by rw [hd, vf0 (.inr h8)]; exact rU_w hx.ku _
                      rw [Nat.add_zero] at H
                      refine J.seq ?_
                      refine J.region ?_
                      refine JL.go trivial (RX.movev (v := Value.pointer _) rfl) ?_
                      refine JL.does trivial (EX.call rfl cl24 rfl ((rUint_c H ho hat hl hE.cons))) ?_
                      rintro _ w ⟨rfl, H⟩
                      rw [hSU] at H ⊢
                      simp only [Rs.val_ok, Rs.k_ok, Rs.code_ok, Rs.val_err, Rs.k_err, Rs.code_err] at H ⊢
                      refine JL.go trivial (RX.movev (v := Value.tuple _) rfl) ?_
                      refine JL.go trivial (RX.extract rfl rfl) ?_
                      refine JL.go trivial (RX.extract (v := errV E 0) rfl rfl) ?_
                      refine JL.go trivial (RX.assignv (v := Value.int _ _) rfl) ?_
                      refine JL.go trivial (RX.assignv (v := errV E 0) rfl) ?_
                      refine JL.nil ?_
                      refine J.seq ?_
                      refine J.region ?_
                      refine JL.go trivial (RX.movev (v := errV E 3) rfl) ?_
                      refine JL.does trivial (EX.call rfl cl21 rfl ((Num_b H (n := 3) hE.cons.cons.cons (by decide)))) ?_
                      rintro _ w ⟨rfl, H⟩
                      refine JL.go trivial (RX.eq rfl rfl) ?_
                      refine JL.go trivial (RX.movev (v := Value.bool _) rfl) ?_
                      refine JL.go ⟨_, rfl, rfl⟩ (RX.movev (v := errV E 0) rfl) ?_
                      refine JL.go ⟨_, rfl, rfl⟩ (RX.ifnil_eql (v := errV E 0) rfl rfl rfl if40) ?_
                      refine JL.go trivial (RX.pick_t rfl rfl) ?_
                      refine JL.go trivial (RX.assignv (v := Value.bool _) rfl) ?_
                      refine JL.nil ?_
                      refine J.ret1 (v := Value.bool _) Tryd.func39 rfl rfl ?_
                      exact ⟨_, rfl, rfl, (H.pull 2 rfl).drop⟩
                    · skip
                      have hS : rUp ((x.u % 4611686018427387904 : Nat) : Int) (bs.drop at_) = .ok x.u (vform x).length := by rw [hd, vf0 (.inr h8)]; exact rUp_w hx.ku (by omega) _
                      rw [hS] at H ⊢
                      simp only [Rs.val_ok, Rs.k_ok, Rs.code_ok, Rs.val_err, Rs.k_err, Rs.code_err] at H ⊢
                      refine J.skip ?_
                      refine J.seq ?_
                      refine J.region ?_
                      refine JL.go trivial (RX.movev (v := errV E 0) rfl) ?_
                      refine JL.go trivial (RX.ifnil_eql (v := errV E 0) rfl rfl rfl if40) ?_
                      refine JL.go trivial (RX.movev (v := Value.bool _) rfl) ?_
                      refine JL.go ⟨_, rfl, rfl⟩ (RX.movev (v := Value.int _ _) rfl) ?_
                      refine JL.go ⟨_, rfl, rfl⟩ (RX.movev (v := Value.int _ _) rfl) ?_
                      refine JL.go ⟨_, rfl, rfl⟩ (RX.eq rfl rfl) ?_
                      refine JL.go trivial (RX.pick_t rfl rfl) ?_
                      refine JL.go trivial (RX.assignv (v := Value.bool _) rfl) ?_
                      refine JL.nil ?_
                      refine J.ret1 (v := Value.bool _) Tryd.func39 rfl rfl ?_
                      exact ⟨_, rfl, congrArg Value.bool (decide_eq_true (by omega)), (H.pull 2 rfl).drop⟩
                  · skip
                    refine J.skip ?_
                    refine J.inBlock ?_
                    refine J.seq ?_
                    refine J.region ?_
                    refine JL.go trivial (RX.assign) ?_
                    refine JL.nil ?_
                    refine J.ret1 (v := Value.bool _) Tryd.func39 rfl rfl ?_
                    rw [vf9 h0 h8 h1 h2 h3 h4 h5 h6 h7]
                    exact ⟨_, rfl, rfl, (H.pull 2 rfl).drop⟩
theorem tooShort_b {w0 w : World} {F : List Seg} {b T c at_ : Nat} {p : Option Addr} {s : Seg} {bs : List UInt8} {E : Nat → Value} {Q : Nat → Addr} (H : Hp w0 w ([(b, cel [.slice p bs.length c, .int .i64 (at_ : Nat)] T)] :: s :: F)) (ho : OwnSl 5 1 p bs.length c (bv bs) s) (hat : at_ ≤ bs.length) (hl : bs.length ≤ 1099511627776) (hE : Errs F E Q) {x : Va} (hx : x.Ok F) {j : Nat} (hj : j < (vform x).length) (hd : bs.drop at_ = (vform x).take j) (hk8 : ¬ x.kind = 8) : Ret Tryd.prog 40 [.pointer (some ⟨b, 0, none⟩), .agg x.cells.toArray] w fun v w' => v = .int .i64 1 ∧ Hp w0 w' ([(b, cel [.slice p bs.length c, .int .i64 (at_ : Nat)] T)] :: s :: F) := by
  refine Calls.of_J (n := 69) Tryd.func40 rfl rfl rfl ?_
  refine J.seq ?_
  refine J.region ?_
  refine JL.does trivial (EX.box (v := Value.agg _) H rfl rfl) ?_
  rintro _ w ⟨b3, rfl, H⟩
  refine JL.go trivial (RX.assign) ?_
  refine JL.nil ?_
  replace H := (H.pull 2 rfl).pull 2 rfl
  have hks := hx.ks
  have hkl := hx.kl
  refine J.seq ?_
  refine J.region ?_
  refine JL.go trivial (RX.assign) ?_
  refine JL.nil ?_
  refine J.seq ?_
  refine J.seq ?_
  refine J.region ?_
  refine JL.go trivial (RX.fieldAddr rfl fo30_0 rfl) ?_
  refine JL.go trivial (by first | exact RX.load H rfl (i := 0) rfl rfl one3 | exact RX.load H rfl (i := 1) rfl rfl one3 | exact RX.load H rfl (i := 2) rfl rfl one3 | exact RX.load H rfl (i := 3) rfl rfl one3 | exact RX.load H rfl (i := 4) rfl rfl one3 | exact RX.load H rfl (i := 5) rfl rfl one3) ?_
  refine JL.nil ?_
  refine J.block ?_
  refine J.seq ?_
  refine J.region ?_
  refine JL.go trivial (RX.eq rfl rfl) ?_
  refine JL.go trivial (RX.assignv (v := Value.bool _) rfl) ?_
  refine JL.nil ?_
  refine J.cond_d rfl (fun h0 => ?_) (fun h0 => ?_)
  · skip
    have hS : rU (bs.drop at_) = .err 1 := by
      rw [hd]; rw [vf0 (.inl h0)] at hj ⊢; rw [rU, rU_cut hx.ku hj]; rfl
    refine J.region ?_
    refine JL.go trivial (RX.movev (v := Value.pointer _) rfl) ?_
    refine JL.does trivial (EX.call rfl cl24 rfl ((rUint_c H ho hat hl hE.cons))) ?_
    rintro _ w ⟨rfl, H⟩
    rw [hS] at H ⊢
    simp only [Rs.val_ok, Rs.k_ok, Rs.code_ok, Rs.val_err, Rs.k_err, Rs.code_err] at H ⊢
    refine JL.go trivial (RX.movev (v := Value.tuple _) rfl) ?_
    refine JL.go trivial (RX.extract rfl rfl) ?_
    refine JL.go trivial (RX.extract (v := errV E 1) rfl rfl) ?_
    refine JL.go trivial (RX.assignv (v := errV E 1) rfl) ?_
    refine JL.nil ?_
    refine J.inBlock ?_
    refine J.seq ?_
    refine J.region ?_
    refine JL.go trivial (RX.movev (v := errV E 1) rfl) ?_
    refine JL.does trivial (EX.call rfl cl21 rfl ((Num_b H (n := 1) hE.cons.cons.cons (by decide)))) ?_
    rintro _ w ⟨rfl, H⟩
    refine JL.go trivial (RX.assignv (v := Value.int _ _) rfl) ?_
    refine JL.nil ?_
    refine J.ret1 (v := Value.int _ _) Tryd.func40 rfl rfl ?_
    exact ⟨_, rfl, rfl, (H.pull 2 rfl).drop⟩
  · skip
    refine J.seq ?_
    refine J.region ?_
    refine JL.go trivial (RX.eq rfl rfl) ?_
    refine JL.go trivial (RX.assignv (v := Value.bool _) rfl) ?_
    refine JL.nil ?_
    refine J.cond_d rfl (fun h1 => ?_) (fun h1 => ?_)
    · skip
      have hS : rI (bs.drop at_) = .err 1 := by
        rw [hd]; rw [vf1 h1] at hj ⊢; rw [rI, rU, rU_cut (zig_le (toI_in hx.ku).1 (toI_in hx.ku).2) hj]; rfl
      refine J.region ?_
      refine JL.go trivial (RX.movev (v := Value.pointer _) rfl) ?_
      refine JL.does trivial (EX.call rfl cl26 rfl ((rInt_c H ho hat hl hE.cons))) ?_
      rintro _ w ⟨rfl, H⟩
      rw [hS] at H ⊢
      simp only [Rs.val_ok, Rs.k_ok, Rs.code_ok, Rs.val_err, Rs.k_err, Rs.code_err] at H ⊢
      refine JL.go trivial (RX.movev (v := Value.tuple _) rfl) ?_
      refine JL.go trivial (RX.extract rfl rfl) ?_
      refine JL.go trivial (RX.extract (v := errV E 1) rfl rfl) ?_
      refine JL.go trivial (RX.assignv (v := errV E 1) rfl) ?_
      refine JL.nil ?_
      refine J.inBlock ?_
      refine J.seq ?_
      refine J.region ?_
      refine JL.go trivial (RX.movev (v := errV E 1) rfl) ?_
      refine JL.does trivial (EX.call rfl cl21 rfl ((Num_b H (n := 1) hE.cons.cons.cons (by decide)))) ?_
      rintro _ w ⟨rfl, H⟩
      refine JL.go trivial (RX.assignv (v := Value.int _ _) rfl) ?_
      refine JL.nil ?_
      refine J.ret1 (v := Value.int _ _) Tryd.func40 rfl rfl ?_
      exact ⟨_, rfl, rfl, (H.pull 2 rfl).drop⟩
    · skip
      refine J.seq ?_
      refine J.region ?_
      refine JL.go trivial (RX.eq rfl rfl) ?_
      refine JL.go trivial (RX.assignv (v := Value.bool _) rfl) ?_
      refine JL.nil ?_
      refine J.cond_d rfl (fun h2 => ?_) (fun h2 => ?_)
      · skip
        have hS : rFl (bs.drop at_) = .err 1 := by
          rw [hd]; rw [vf2 h2] at hj ⊢; exact rFl_cut hj
        refine J.region ?_
        refine JL.go trivial (RX.movev (v := Value.pointer _) rfl) ?_
        refine JL.does trivial (EX.call rfl cl28 rfl ((rFloat_c H ho hat hl hE.cons))) ?_
        rintro _ w ⟨rfl, H⟩
        rw [hS] at H ⊢
        simp only [Rs.val_ok, Rs.k_ok, Rs.code_ok, Rs.val_err, Rs.k_err, Rs.code_err] at H ⊢
        refine JL.go trivial (RX.movev (v := Value.tuple _) rfl) ?_
        refine JL.go trivial (RX.extract rfl rfl) ?_
        refine JL.go trivial (RX.extract (v := errV E 1) rfl rfl) ?_
        refine JL.go trivial (RX.assignv (v := errV E 1) rfl) ?_
        refine JL.nil ?_
        refine J.inBlock ?_
        refine J.seq ?_
        refine J.region ?_
        refine JL.go trivial (RX.movev (v := errV E 1) rfl) ?_
        refine JL.does trivial (EX.call rfl cl21 rfl ((Num_b H (n := 1) hE.cons.cons.cons (by decide)))) ?_
        rintro _ w ⟨rfl, H⟩
        refine JL.go trivial (RX.assignv (v := Value.int _ _) rfl) ?_
        refine JL.nil ?_
        refine J.ret1 (v := Value.int _ _) Tryd.func40 rfl rfl ?_
        exact ⟨_, rfl, rfl, (H.pull 2 rfl).drop⟩
      · skip
        refine J.seq ?_
        refine J.region ?_
        refine JL.go trivial (RX.eq rfl rfl) ?_
        refine JL.go trivial (RX.assignv (v := Value.bool _) rfl) ?_
        refine JL.nil ?_
        refine J.cond_d rfl (fun h3 => ?_) (fun h3 => ?_)
        · skip
          have hS : rCo (bs.drop at_) = .err 1 := by
            rw [hd]; rw [vf3 h3] at hj ⊢; exact rCo_cut hj
          refine J.region ?_
          refine JL.go trivial (RX.movev (v := Value.pointer _) rfl) ?_
          refine JL.does trivial (EX.call rfl cl30 rfl ((rComplex_c H ho hat hl hE.cons))) ?_
          rintro _ w ⟨rfl, H⟩
          rw [hS] at H ⊢
          simp only [Rs.val_ok, Rs.k_ok, Rs.code_ok, Rs.val_err, Rs.k_err, Rs.code_err] at H ⊢
          refine JL.go trivial (RX.movev (v := Value.tuple _) rfl) ?_
          refine JL.go trivial (RX.extract rfl rfl) ?_
          refine JL.go trivial (RX.extract (v := errV E 1) rfl rfl) ?_
          refine JL.go trivial (RX.assignv (v := errV E 1) rfl) ?_
          refine JL.nil ?_
          refine J.inBlock ?_
          refine J.seq ?_
          refine J.region ?_
          refine JL.go trivial (RX.movev (v := errV E 1) rfl) ?_
          refine JL.does trivial (EX.call rfl cl21 rfl ((Num_b H (n := 1) hE.cons.cons.cons (by decide)))) ?_
          rintro _ w ⟨rfl, H⟩
          refine JL.go trivial (RX.assignv (v := Value.int _ _) rfl) ?_
          refine JL.nil ?_
          refine J.ret1 (v := Value.int _ _) Tryd.func40 rfl rfl ?_
          exact ⟨_, rfl, rfl, (H.pull 2 rfl).drop⟩
        · skip
          refine J.seq ?_
          refine J.region ?_
          refine JL.go trivial (RX.eq rfl rfl) ?_
          refine JL.go trivial (RX.assignv (v := Value.bool _) rfl) ?_
          refine JL.nil ?_
          refine J.cond_d rfl (fun h4 => ?_) (fun h4 => ?_)
          · skip
            have hS : rNa (bs.drop at_) = .err 1 := by
              rw [hd]; rw [vf4 h4] at hj ⊢; exact rNa_cut hj
            refine J.region ?_
            refine JL.go trivial (RX.movev (v := Value.pointer _) rfl) ?_
            refine JL.does trivial (EX.call rfl cl32 rfl ((rNarrow_c H ho hat hl hE.cons))) ?_
            rintro _ w ⟨rfl, H⟩
            rw [hS] at H ⊢
            simp only [Rs.val_ok, Rs.k_ok, Rs.code_ok, Rs.val_err, Rs.k_err, Rs.code_err] at H ⊢
            refine JL.go trivial (RX.movev (v := Value.tuple _) rfl) ?_
            refine JL.go trivial (RX.extract rfl rfl) ?_
            refine JL.go trivial (RX.extract (v := errV E 1) rfl rfl) ?_
            refine JL.go trivial (RX.assignv (v := errV E 1) rfl) ?_
            refine JL.nil ?_
            refine J.inBlock ?_
            refine J.seq ?_
            refine J.region ?_
            refine JL.go trivial (RX.movev (v := errV E 1) rfl) ?_
            refine JL.does trivial (EX.call rfl cl21 rfl ((Num_b H (n := 1) hE.cons.cons.cons (by decide)))) ?_
            rintro _ w ⟨rfl, H⟩
            refine JL.go trivial (RX.assignv (v := Value.int _ _) rfl) ?_
            refine JL.nil ?_
            refine J.ret1 (v := Value.int _ _) Tryd.func40 rfl rfl ?_
            exact ⟨_, rfl, rfl, (H.pull 2 rfl).drop⟩
          · skip
            refine J.seq ?_
            refine J.region ?_
            refine JL.go trivial (RX.eq rfl rfl) ?_
            refine JL.go trivial (RX.assignv (v := Value.bool _) rfl) ?_
            refine JL.nil ?_
            refine J.cond_d rfl (fun h5 => ?_) (fun h5 => ?_)
            · skip
              have hS : rTx x.s.size (bs.drop at_) = .err 1 := by
                rw [hd]; rw [vf5 h5] at hj ⊢; exact rTx_cut (by omega) hj
              refine J.region ?_
              refine JL.go trivial (RX.movev (v := Value.pointer _) rfl) ?_
              refine JL.go trivial (RX.fieldAddr rfl fo30_3 rfl) ?_
              refine JL.go trivial (by first | exact RX.load H rfl (i := 0) rfl rfl one9 | exact RX.load H rfl (i := 1) rfl rfl one9 | exact RX.load H rfl (i := 2) rfl rfl one9 | exact RX.load H rfl (i := 3) rfl rfl one9 | exact RX.load H rfl (i := 4) rfl rfl one9 | exact RX.load H rfl (i := 5) rfl rfl one9) ?_
              refine JL.go trivial (RX.len_string rfl ud9 rfl) ?_
              refine JL.does trivial (EX.call rfl cl34 rfl ((rText_c (most := x.s.size) H ho hat hl hE.cons (by omega) (by omega)))) ?_
              rintro _ w ⟨rfl, H⟩
              rw [hS] at H ⊢
              simp only [Rs.val_ok, Rs.k_ok, Rs.code_ok, Rs.val_err, Rs.k_err, Rs.code_err] at H ⊢
              refine JL.go trivial (RX.movev (v := Value.tuple _) rfl) ?_
              refine JL.go trivial (RX.extract rfl rfl) ?_
              refine JL.go trivial (RX.extract (v := errV E 1) rfl rfl) ?_
              refine JL.go trivial (RX.assignv (v := errV E 1) rfl) ?_
              refine JL.nil ?_
              refine J.inBlock ?_
              refine J.seq ?_
              refine J.region ?_
              refine JL.go trivial (RX.movev (v := errV E 1) rfl) ?_
              refine JL.does trivial (EX.call rfl cl21 rfl ((Num_b H (n := 1) hE.cons.cons.cons (by decide)))) ?_
              rintro _ w ⟨rfl, H⟩
              refine JL.go trivial (RX.assignv (v := Value.int _ _) rfl) ?_
              refine JL.nil ?_
              refine J.ret1 (v := Value.int _ _) Tryd.func40 rfl rfl ?_
              exact ⟨_, rfl, rfl, (H.pull 2 rfl).drop⟩
            · skip
              refine J.seq ?_
              refine J.region ?_
              refine JL.go trivial (RX.eq rfl rfl) ?_
              refine JL.go trivial (RX.assignv (v := Value.bool _) rfl) ?_
              refine JL.nil ?_
              refine J.cond_d rfl (fun h6 => ?_) (fun h6 => ?_)
              · skip
                have hS : rList rCo (bs.drop at_) = .err 1 := by
                  rw [hd]; rw [vf6 h6] at hj ⊢; exact rCos_cut (pairs_small hx) (pairs_ok hx) hj
                refine J.region ?_
                refine JL.go trivial (RX.movev (v := Value.pointer _) rfl) ?_
                refine JL.does trivial (EX.call rfl cl17 rfl ((rList_c H ho hat hl hE.cons))) ?_
                rintro _ w ⟨p2, c2, s2, hv, ho2, H⟩
                rw [hS] at hv ho2 H
                simp only [Rs.val_ok, Rs.k_ok, Rs.code_ok, Rs.val_err, Rs.k_err, Rs.code_err] at hv ho2 H
                subst hv
                replace H := (H.drop)
                refine JL.go trivial (RX.movev (v := Value.tuple _) rfl) ?_
                refine JL.go trivial (RX.extract rfl rfl) ?_
                refine JL.go trivial (RX.extract (v := errV E 1) rfl rfl) ?_
                refine JL.go trivial (RX.assignv (v := errV E 1) rfl) ?_
                refine JL.nil ?_
                refine J.inBlock ?_
                refine J.seq ?_
                refine J.region ?_
                refine JL.go trivial (RX.movev (v := errV E 1) rfl) ?_
                refine JL.does trivial (EX.call rfl cl21 rfl ((Num_b H (n := 1) hE.cons.cons.cons (by decide)))) ?_
                rintro _ w ⟨rfl, H⟩
                refine JL.go trivial (RX.assignv (v := Value.int _ _) rfl) ?_
                refine JL.nil ?_
                refine J.ret1 (v := Value.int _ _) Tryd.func40 rfl rfl ?_
                exact ⟨_, rfl, rfl, (H.pull 2 rfl).drop⟩
              · skip
                refine J.seq ?_
                refine J.region ?_
                refine JL.go trivial (RX.eq rfl rfl) ?_
                refine JL.go trivial (RX.assignv (v := Value.bool _) rfl) ?_
                refine JL.nil ?_
                refine J.cond_d rfl (fun h7 => ?_) (fun h7 => ?_)
                · skip
                  have hS : rList rFl (bs.drop at_) = .err 1 := by
                    rw [hd]; rw [vf7 h7] at hj ⊢; exact rFls_cut hx.kl hx.kb hj
                  refine J.region ?_
                  refine JL.go trivial (RX.movev (v := Value.pointer _) rfl) ?_
                  refine JL.does trivial (EX.call rfl cl36 rfl ((rFloats_c H ho hat hl hE.cons))) ?_
                  rintro _ w ⟨p2, c2, s2, hv, ho2, H⟩
                  rw [hS] at hv ho2 H
                  simp only [Rs.val_ok, Rs.k_ok, Rs.code_ok, Rs.val_err, Rs.k_err, Rs.code_err] at hv ho2 H
                  subst hv
                  replace H := (H.drop)
                  refine JL.go trivial (RX.movev (v := Value.tuple _) rfl) ?_
                  refine JL.go trivial (RX.extract rfl rfl) ?_
                  refine JL.go trivial (RX.extract (v := errV E 1) rfl rfl) ?_
                  refine JL.go trivial (RX.assignv (v := errV E 1) rfl) ?_
                  refine JL.nil ?_
                  refine J.inBlock ?_
                  refine J.seq ?_
                  refine J.region ?_
                  refine JL.go trivial (RX.movev (v := errV E 1) rfl) ?_
                  refine JL.does trivial (EX.call rfl cl21 rfl ((Num_b H (n := 1) hE.cons.cons.cons (by decide)))) ?_
                  rintro _ w ⟨rfl, H⟩
                  refine JL.go trivial (RX.assignv (v := Value.int _ _) rfl) ?_
                  refine JL.nil ?_
                  refine J.ret1 (v := Value.int _ _) Tryd.func40 rfl rfl ?_
                  exact ⟨_, rfl, rfl, (H.pull 2 rfl).drop⟩
                · skip
                  exfalso
                  rw [vf9 h0 hk8 h1 h2 h3 h4 h5 h6 h7] at hj
                  simp at hj
theorem put_b {w0 w : World} {F : List Seg} {b T : Nat} {xs : List UInt8} (hw : Wr w0 F b T xs w) {E : Nat → Value} {Q : Nat → Addr} (hE : Errs F E Q) {x : Va} (hx : x.Ok F) (hl : xs.length + 33554432 ≤ 1099511627776) : Ret Tryd.prog 38 [.pointer (some ⟨b, 0, none⟩), .agg x.cells.toArray] w fun v w' => v = .bool true ∧ Wr w0 F b T (xs ++ vform x) w' := by
  refine Calls.of_J (n := 20) Tryd.func38 rfl rfl rfl ?_
  refine J.seq ?_
  obtain ⟨p, c, s, ho, H⟩ := hw
  refine J.region ?_
  refine JL.does trivial (EX.box (v := Value.agg _) H rfl rfl) ?_
  rintro _ w ⟨b3, rfl, H⟩
  refine JL.go trivial (RX.assign) ?_
  refine JL.nil ?_
  have hkl := hx.kl
  refine J.seq ?_
  refine J.region ?_
  refine JL.go trivial (RX.movev (v := Value.pointer _) rfl) ?_
  refine JL.go trivial (by first | exact RX.loadAgg H rfl (i := 0) rfl rfl ag30 | exact RX.loadAgg H rfl (i := 1) rfl rfl ag30 | exact RX.loadAgg H rfl (i := 2) rfl rfl ag30 | exact RX.loadAgg H rfl (i := 3) rfl rfl ag30) ?_
  replace H := (H.pull 2 rfl).pull 2 rfl
  refine JL.does trivial (EX.call rfl cl10 rfl ((write_b ⟨p, c, s, ho, H⟩ hE.cons hx.cons hl))) ?_
  rintro _ w ⟨p, c, s, q, qc, qs, rfl, hoq, ho, H⟩
  refine JL.go trivial (RX.movev (v := Value.tuple _) rfl) ?_
  refine JL.go trivial (RX.extract rfl rfl) ?_
  refine JL.go trivial (RX.extract rfl rfl) ?_
  refine JL.go trivial (RX.assignv (v := Value.slice _ _ _) rfl) ?_
  refine JL.go trivial (RX.assignv (v := Value.bool _) rfl) ?_
  refine JL.nil ?_
  refine J.seq ?_
  refine J.region ?_
  refine JL.go trivial (RX.movev (v := Value.bool _) rfl) ?_
  refine JL.go trivial (RX.movev (v := Value.bool _) rfl) ?_
  refine JL.go ⟨_, rfl, rfl⟩ (RX.fieldAddr rfl fo30_4 rfl) ?_
  refine JL.go ⟨_, rfl, rfl⟩ (by first | exact RX.load H rfl (i := 0) rfl rfl one28 | exact RX.load H rfl (i := 1) rfl rfl one28 | exact RX.load H rfl (i := 2) rfl rfl one28 | exact RX.load H rfl (i := 3) rfl rfl one28) ?_
  refine JL.go ⟨_, rfl, rfl⟩ (RX.len_slice rfl (by rw [sl28]; rfl) rfl) ?_
  refine JL.go ⟨_, rfl, rfl⟩ (RX.le rfl rfl) ?_
  refine JL.go trivial (RX.pick_t rfl rfl) ?_
  refine JL.go trivial (RX.assignv (v := Value.bool _) rfl) ?_
  refine JL.nil ?_
  refine J.ret1 (v := Value.bool _) Tryd.func38 rfl rfl ?_
  exact ⟨_, rfl, congrArg Value.bool (decide_eq_true (by omega)), p, c, s, ho, (((H.pull 2 rfl).drop).pull 2 rfl).drop⟩
end Go.Proofs.YtippfdnjhcpekaaDoor
