/- CheckBeginnings. -/
import Derived.Test.YtafhajgebhicdaaDoorLa
namespace Go.Proofs.YtafhajgebhicdaaDoor
open Go Go.Eng
set_option maxRecDepth 100000
set_option linter.unusedVariables false
set_option linter.unusedSimpArgs false
set_option maxHeartbeats 1600000 in
theorem CheckBeginnings_b {w0 w : World} {F : List Seg} {E : Nat → Value} {Q : Nat → Addr} (H : Hp w0 w F) (hE : Errs F E Q) (hT : SlAt F (some ⟨19, 0, none⟩) tableC) {p : Prg} {pp : Option Addr} {pc : Nat} (hst : SlAt F pp (stepsV p.steps)) (hp : p.Ow) {cut more : Int} {s : Stp} (hs : s.Ok) : Ret Tryd.prog 6 [.agg (prgV p pp p.steps.length pc).toArray, .int .i64 cut, .int .i64 more, .agg s.v.toArray] w fun v w' => v = .bool true ∧ Hp w0 w' F := by
  refine Calls.of_J (n := 178) Tryd.func6 rfl rfl rfl ?_
  refine J.seq ?_
  refine J.region ?_
  refine JL.does trivial (EX.box (v := Value.agg _) H rfl rfl) ?_
  rintro _ w ⟨b4, rfl, H⟩
  refine JL.does trivial (EX.box (v := Value.agg _) H rfl rfl) ?_
  rintro _ w ⟨b7, rfl, H⟩
  refine JL.go trivial (RX.assign) ?_
  refine JL.nil ?_
  refine J.seq ?_
  refine J.seq ?_
  refine J.region ?_
  refine JL.does trivial (EX.call rfl cl8 rfl ((lives_b H hE.cons.cons hT.cons.cons))) ?_
  rintro _ w ⟨rfl, H⟩
  refine JL.go trivial (RX.not rfl) ?_
  refine JL.nil ?_
  refine J.cond_f rfl rfl ?_
  refine J.skip ?_
  refine J.seq ?_
  refine J.seq ?_
  refine J.region ?_
  refine JL.go trivial (RX.fieldAddr rfl fo24_4 rfl) ?_
  refine JL.go trivial (RX.load H rfl (i := 1) (v := .slice pp p.steps.length pc) rfl rfl one22) ?_
  refine JL.go trivial (RX.len_slice rfl (by rw [sl22]; rfl) rfl) ?_
  refine JL.go trivial (RX.ge rfl rfl) ?_
  refine JL.go trivial (RX.movev (v := Value.bool _) rfl) ?_
  refine JL.splitS 23 rfl (fun a1 => ?_) (fun a1 => ?_)
  · skip
    first | have a1p := of_decide_eq_true a1 | skip
    refine JL.no ⟨_, rfl, gno a1⟩ ?_
    refine JL.no ⟨_, rfl, gno a1⟩ ?_
    refine JL.no ⟨_, rfl, gno a1⟩ ?_
    refine JL.go trivial (RX.pick_t rfl a1) ?_
    refine JL.go trivial (RX.movev (v := Value.bool _) rfl) ?_
    refine JL.no ⟨_, rfl, gno rfl⟩ ?_
    refine JL.no ⟨_, rfl, gno rfl⟩ ?_
    refine JL.no ⟨_, rfl, gno rfl⟩ ?_
    refine JL.no ⟨_, rfl, gno rfl⟩ ?_
    refine JL.no ⟨_, rfl, gno rfl⟩ ?_
    refine JL.go trivial (RX.pick_t rfl rfl) ?_
    refine JL.nil ?_
    refine J.cond_t rfl rfl ?_
    refine J.seq ?_
    refine J.region ?_
    refine JL.go trivial (RX.assign) ?_
    refine JL.nil ?_
    refine J.ret1 (v := Value.bool _) Tryd.func6 rfl rfl ?_
    first | exact ⟨_, rfl, rfl, H.drop.drop⟩ | exact ⟨_, rfl, rfl, H.drop.drop.drop⟩
  · skip
    first | have a1p := of_decide_eq_false a1 | skip
    have a1q := of_decide_eq_false a1
    have hpo : p.Ok := ⟨hp.len, hp.cells, hp.inn, hp.out, hp.steps, by omega⟩
    have hso : (oneP s).Ok := ⟨(show i64ok 0 by decide), (show i64ok 0 by decide), (show i64ok 0 by decide), (show i64ok 0 by decide), (fun x hx => by rw [List.mem_singleton.1 hx]; exact hs), (show (1 : Nat) ≤ 2199023255552 by decide)⟩
    refine JL.go ⟨_, rfl, a1⟩ (RX.loadAgg H rfl (i := 1) (vs := prgV p pp p.steps.length pc) rfl rfl ag24) ?_
    refine JL.does ⟨_, rfl, a1⟩ (EX.call rfl cl9 rfl ((work_b H hst.cons.cons hpo))) ?_
    rintro _ w ⟨rfl, H⟩
    refine JL.go ⟨_, rfl, a1⟩ (RX.gt rfl rfl) ?_
    refine JL.go trivial (RX.pick_f rfl a1) ?_
    refine JL.go trivial (RX.movev (v := Value.bool _) rfl) ?_
    refine JL.splitS 28 rfl (fun a2 => ?_) (fun a2 => ?_)
    · skip
      first | have a2p := of_decide_eq_true a2 | skip
      refine JL.no ⟨_, rfl, gno a2⟩ ?_
      refine JL.no ⟨_, rfl, gno a2⟩ ?_
      refine JL.no ⟨_, rfl, gno a2⟩ ?_
      refine JL.no ⟨_, rfl, gno a2⟩ ?_
      refine JL.no ⟨_, rfl, gno a2⟩ ?_
      refine JL.go trivial (RX.pick_t rfl a2) ?_
      refine JL.nil ?_
      refine J.cond_t rfl rfl ?_
      refine J.seq ?_
      refine J.region ?_
      refine JL.go trivial (RX.assign) ?_
      refine JL.nil ?_
      refine J.ret1 (v := Value.bool _) Tryd.func6 rfl rfl ?_
      first | exact ⟨_, rfl, rfl, H.drop.drop⟩ | exact ⟨_, rfl, rfl, H.drop.drop.drop⟩
    · skip
      first | have a2p := of_decide_eq_false a2 | skip
      refine JL.go ⟨_, rfl, a2⟩ (RX.loadAgg H rfl (i := 0) (vs := s.v) rfl rfl ag39) ?_
      refine JL.does ⟨_, rfl, a2⟩ (EX.buildSlice (pv := [(0, .agg s.v.toArray)]) (l := s.v) (e := 39) H rfl (by kernel_rfl)) ?_
      rintro _ w ⟨b30, rfl, H⟩
      refine JL.go ⟨_, rfl, a2⟩ (RX.build (pv := [(4, .slice (some ⟨b30, 0, none⟩) 1 1)]) (res := prgV (oneP s) (some ⟨b30, 0, none⟩) 1 1) rfl (by kernel_rfl)) ?_
      refine JL.does ⟨_, rfl, a2⟩ (EX.call rfl cl9 rfl ((work_b (p := oneP s) H (SlAt.here (show s.v.take 7 = stepsV [s] by simp [stepsV, Stp.v])) hso))) ?_
      rintro _ w ⟨rfl, H⟩
      refine JL.go ⟨_, rfl, a2⟩ (RX.gt rfl rfl) ?_
      refine JL.go trivial (RX.pick_f rfl a2) ?_
      refine JL.nil ?_
      refine J.cond_d rfl (fun a3 => ?_) (fun a3 => ?_)
      · skip
        refine J.seq ?_
        refine J.region ?_
        refine JL.go trivial (RX.assign) ?_
        refine JL.nil ?_
        refine J.ret1 (v := Value.bool _) Tryd.func6 rfl rfl ?_
        first | exact ⟨_, rfl, rfl, H.drop.drop⟩ | exact ⟨_, rfl, rfl, H.drop.drop.drop⟩
      · skip
        have a2q := of_decide_eq_false a2
        have hfl := fault_lt p.steps p.cells
        have hie : isErr (errV E (chkP p)) = true ∧ isNil (errV E (chkP p)) = decide (chkP p = 0) := errV_ie hE (chkP_le p)
        refine J.skip ?_
        refine J.seq ?_
        refine J.region ?_
        refine JL.go trivial (RX.loadAgg H rfl (i := 2) (vs := prgV p pp p.steps.length pc) rfl rfl ag24) ?_
        refine JL.does trivial (EX.call rfl cl10 rfl ((copied_b H hst.cons.cons.cons hpo.num))) ?_
        rintro _ w ⟨fp, fc, fs, rfl, hof, H⟩
        obtain ⟨g, l, rfl, hg⟩ := hof.ptr (by omega)
        refine JL.go trivial (RX.movev (v := Value.tuple _) rfl) ?_
        refine JL.go trivial (RX.extract rfl rfl) ?_
        refine JL.go trivial (RX.extract rfl rfl) ?_
        refine JL.does trivial (EX.storeAgg H rfl rfl (i := 3) (vs := prgV p (some ⟨g, 0, none⟩) p.steps.length fc) (l' := prgV p (some ⟨g, 0, none⟩) p.steps.length fc) rfl prgV_cell (by simp [prgV]) sz24 rfl rfl) ?_
        rintro _ w H
        refine JL.nil ?_
        refine J.seq ?_
        refine J.region ?_
        refine JL.go trivial (RX.loadAgg H rfl (i := 3) (vs := prgV p (some ⟨g, 0, none⟩) p.steps.length fc) rfl rfl ag24) ?_
        refine JL.does trivial (EX.call rfl cl16 rfl ((Fault_b H hT.cons.cons.cons.cons (hE.at_ 9 (by decide) (by decide)).cons.cons.cons.cons (mine_sl hof ([(b30, cel s.v 39)] :: [(b7, cel s.v 39)] :: [(b4, cel (prgV p (some ⟨g, 0, none⟩) p.steps.length fc) 24)] :: F)) hp))) ?_
        rintro _ w ⟨rfl, H⟩
        refine JL.go trivial (RX.assignv (v := Value.int _ _) rfl) ?_
        refine JL.nil ?_
        refine J.seq ?_
        refine J.seq ?_
        refine J.region ?_
        refine JL.go trivial (RX.movev (v := Value.int _ _) rfl) ?_
        refine JL.go trivial (RX.lt rfl rfl) ?_
        refine JL.go trivial (RX.movev (v := Value.bool _) rfl) ?_
        refine JL.go ⟨_, rfl, (decide_eq_false (by omega))⟩ (RX.movev (v := Value.int _ _) rfl) ?_
        refine JL.go ⟨_, rfl, (decide_eq_false (by omega))⟩ (RX.fieldAddr rfl fo24_4 rfl) ?_
        refine JL.go ⟨_, rfl, (decide_eq_false (by omega))⟩ (RX.load H rfl (i := 3) (v := .slice (some ⟨g, 0, none⟩) p.steps.length fc) rfl rfl one22) ?_
        refine JL.go ⟨_, rfl, (decide_eq_false (by omega))⟩ (RX.len_slice rfl (by rw [sl22]; rfl) rfl) ?_
        refine JL.go ⟨_, rfl, (decide_eq_false (by omega))⟩ (RX.ge rfl rfl) ?_
        refine JL.go trivial (RX.pick_f rfl (decide_eq_false (by omega))) ?_
        refine JL.nil ?_
        refine J.cond_f rfl (decide_eq_false (by omega)) ?_
        refine J.skip ?_
        refine J.seq ?_
        refine J.region ?_
        refine JL.go trivial (RX.loadAgg H rfl (i := 3) (vs := prgV p (some ⟨g, 0, none⟩) p.steps.length fc) rfl rfl ag24) ?_
        refine JL.does trivial (EX.call rfl cl14 rfl ((Check_b H hT.cons.cons.cons.cons (hE.at_ 9 (by decide) (by decide)).cons.cons.cons.cons (mine_sl hof ([(b30, cel s.v 39)] :: [(b7, cel s.v 39)] :: [(b4, cel (prgV p (some ⟨g, 0, none⟩) p.steps.length fc) 24)] :: F)) hp))) ?_
        rintro _ w ⟨rfl, H⟩
        refine JL.go trivial (RX.ifnil_eql (v := errV E (chkP p)) rfl rfl hie.1 if30) ?_
        rw [hie.2]
        refine JL.go trivial (RX.assignv (v := Value.bool _) rfl) ?_
        refine JL.nil ?_
        refine J.seq ?_
        refine J.region ?_
        refine JL.go trivial (RX.loadAgg H rfl (i := 3) (vs := prgV p (some ⟨g, 0, none⟩) p.steps.length fc) rfl rfl ag24) ?_
        refine JL.does trivial (EX.call rfl cl11 rfl ((Acts_b H hT.cons.cons.cons.cons (hE.at_ 9 (by decide) (by decide)).cons.cons.cons.cons (mine_sl hof ([(b30, cel s.v 39)] :: [(b7, cel s.v 39)] :: [(b4, cel (prgV p (some ⟨g, 0, none⟩) p.steps.length fc) 24)] :: F)) hp))) ?_
        rintro _ w ⟨rfl, H⟩
        refine JL.go trivial (RX.movev (v := Value.tuple _) rfl) ?_
        refine JL.go trivial (RX.extract rfl rfl) ?_
        refine JL.go trivial (RX.extract (v := errV E (chkP p)) rfl rfl) ?_
        refine JL.go trivial (RX.assignv (v := Value.int _ _) rfl) ?_
        refine JL.go trivial (RX.assignv (v := errV E (chkP p)) rfl) ?_
        refine JL.nil ?_
        refine J.seq ?_
        refine J.seq ?_
        refine J.region ?_
        refine JL.go trivial (RX.movev (v := Value.bool _) rfl) ?_
        refine JL.go trivial (RX.movev (v := Value.bool _) rfl) ?_
        refine JL.splitS 60 rfl (fun g1 => ?_) (fun g1 => ?_)
        · skip
          first | have g1p := of_decide_eq_true g1 | skip
          have hck : chkP p = 0 := of_decide_eq_true g1
          have hfp := (chkP_zero hck).2
          have hab := acts_bd hck
          have hhb := head_bd hck
          have hisn : isNil (errV E (chkP p)) = true := by rw [hie.2, g1]
          refine JL.go ⟨_, rfl, g1⟩ (RX.movev (v := Value.int _ _) rfl) ?_
          refine JL.go ⟨_, rfl, g1⟩ (RX.ne rfl rfl) ?_
          refine JL.go ⟨_, rfl, g1⟩ (RX.movev (v := Value.bool _) rfl) ?_
          refine JL.go ⟨_, rfl, (decide_eq_false (fun h => h hfp))⟩ (RX.movev (v := errV E (chkP p)) rfl) ?_
          refine JL.go ⟨_, rfl, (decide_eq_false (fun h => h hfp))⟩ (RX.ifnil_neq (v := errV E (chkP p)) rfl rfl hie.1 if30) ?_
          refine JL.go ⟨_, rfl, g1⟩ (RX.pick_f rfl (decide_eq_false (fun h => h hfp))) ?_
          refine JL.go trivial (RX.pick_t rfl g1) ?_
          refine JL.go trivial (RX.movev (v := Value.bool _) rfl) ?_
          refine JL.go ⟨_, rfl, (by rw [hisn]; rfl)⟩ (RX.movev (v := Value.bool _) rfl) ?_
          refine JL.go ⟨_, rfl, (by rw [hisn]; rfl)⟩ (RX.not rfl) ?_
          refine JL.go ⟨_, rfl, (by rw [hisn]; rfl)⟩ (RX.movev (v := Value.bool _) rfl) ?_
          refine JL.no ⟨_, rfl, gno (by first | (rw [g1]; done) | (rw [g1]; rfl))⟩ ?_
          refine JL.no ⟨_, rfl, gno (by first | (rw [g1]; done) | (rw [g1]; rfl))⟩ ?_
          refine JL.go ⟨_, rfl, (by rw [hisn]; rfl)⟩ (RX.pick_f rfl (by first | (rw [g1]; done) | (rw [g1]; rfl))) ?_
          refine JL.go trivial (RX.pick_f rfl (by rw [hisn]; rfl)) ?_
          refine JL.nil ?_
          refine J.cond_f rfl rfl ?_
          refine J.skip ?_
          refine J.seq ?_
          refine J.region ?_
          refine JL.go trivial (RX.loadAgg H rfl (i := 3) (vs := prgV p (some ⟨g, 0, none⟩) p.steps.length fc) rfl rfl ag24) ?_
          refine JL.does trivial (EX.alloc H zr24 rfl) ?_
          rintro _ w ⟨b13, rfl, H⟩
          refine JL.does trivial (EX.storeAgg H rfl rfl (i := 0) (vs := prgV p (some ⟨g, 0, none⟩) p.steps.length fc) (l' := prgV p (some ⟨g, 0, none⟩) p.steps.length fc) rfl prgV_cell (by simp [prgV]) sz24 rfl rfl) ?_
          rintro _ w H
          refine JL.nil ?_
          refine J.seq ?_
          refine J.seq ?_
          refine J.region ?_
          refine JL.go trivial (RX.movev (v := Value.int _ _) rfl) ?_
          refine JL.go trivial (RX.ge rfl rfl) ?_
          refine JL.nil ?_
          refine J.cond_f rfl (decide_eq_false (by omega)) ?_
          refine J.skip ?_
          refine J.seq ?_
          obtain ⟨K, hK, hK2⟩ : ∃ K : Nat, cut % 18446744073709551616 % ((p.steps.length + 1 : Nat) : Int) = (K : Int) ∧ K ≤ p.steps.length := by
            have h1 := Int.emod_nonneg (cut % 18446744073709551616) (show ((p.steps.length + 1 : Nat) : Int) ≠ 0 by omega)
            have h2 := Int.emod_lt_of_pos (cut % 18446744073709551616) (show (0 : Int) < ((p.steps.length + 1 : Nat) : Int) by omega)
            exact ⟨(cut % 18446744073709551616 % ((p.steps.length + 1 : Nat) : Int)).toNat, by omega, by omega⟩
          have hul := upto_len (p := p) (k := K) hK2
          refine J.held (fun w => Hp w0 w (fs :: [(b30, cel s.v 39)] :: [(b7, cel s.v 39)] :: [(b4, cel (prgV p (some ⟨g, 0, none⟩) p.steps.length fc) 24)] :: F)) hmix fun w hs => ?_
          replace H := H.same hs; clear hs
          have hS : Hp w0 w (fs :: [(b30, cel s.v 39)] :: [(b7, cel s.v 39)] :: [(b4, cel (prgV p (some ⟨g, 0, none⟩) p.steps.length fc) 24)] :: F) := by first | exact H | exact H.drop | exact H.drop.drop | exact H.drop.drop.drop | exact H.drop.drop.drop.drop | exact H.drop.drop.drop.drop.drop | exact H.drop.drop.drop.drop.drop.drop | exact H.drop.drop.drop.drop.drop.drop.drop | exact H.drop.drop.drop.drop.drop.drop.drop.drop
          refine JH.take 0 (listed' := [true, false, false, false, false, false, false, false, false, false, false, false, false, false]) rfl (by kernel_rfl) (by kernel_rfl) (by kernel_rfl) rfl trivial (fun w H => RX.fieldAddr rfl fo24_4 rfl) hS ?_
          refine JH.take 1 (listed' := [true, true, false, false, false, false, false, false, false, false, false, false, false, false]) rfl (by kernel_rfl) (by kernel_rfl) (by kernel_rfl) rfl trivial (fun w H => RX.load H rfl (i := 3) (v := .slice (some ⟨g, 0, none⟩) p.steps.length fc) rfl rfl one22) hS ?_
          refine JH.take 2 (listed' := [true, true, true, false, false, false, false, false, false, false, false, false, false, false]) rfl (by kernel_rfl) (by kernel_rfl) (by kernel_rfl) rfl trivial (fun w H => RX.movev (v := Value.int _ _) rfl) hS ?_
          refine JH.take 3 (listed' := [true, true, true, true, false, false, false, false, false, false, false, false, false, false]) rfl (by kernel_rfl) (by kernel_rfl) (by kernel_rfl) rfl trivial (fun w H => RX.conv rfl (by rw [ki3]; rfl) ki41 (wrap_u64 _)) hS ?_
          refine JH.take 4 (listed' := [true, true, true, true, true, false, false, false, false, false, false, false, false, false]) rfl (by kernel_rfl) (by kernel_rfl) (by kernel_rfl) rfl trivial (fun w H => RX.fieldAddr rfl fo24_4 rfl) hS ?_
          refine JH.take 5 (listed' := [true, true, true, true, true, true, false, false, false, false, false, false, false, false]) rfl (by kernel_rfl) (by kernel_rfl) (by kernel_rfl) rfl trivial (fun w H => RX.load H rfl (i := 3) (v := .slice (some ⟨g, 0, none⟩) p.steps.length fc) rfl rfl one22) hS ?_
          refine JH.take 6 (listed' := [true, true, true, true, true, true, true, false, false, false, false, false, false, false]) rfl (by kernel_rfl) (by kernel_rfl) (by kernel_rfl) rfl trivial (fun w H => RX.len_slice rfl (by rw [sl22]; rfl) rfl) hS ?_
          refine JH.take 7 (listed' := [true, true, true, true, true, true, true, true, false, false, false, false, false, false]) rfl (by kernel_rfl) (by kernel_rfl) (by kernel_rfl) rfl trivial (fun w H => RX.add rfl rfl (w_i64 (r := ((p.steps.length + 1 : Nat) : Int)) (by omega) (by omega) (by omega))) hS ?_
          refine JH.take 8 (listed' := [true, true, true, true, true, true, true, true, true, false, false, false, false, false]) rfl (by kernel_rfl) (by kernel_rfl) (by kernel_rfl) rfl trivial (fun w H => RX.conv rfl (by rw [ki3]; rfl) ki41 (w_u64 (r := ((p.steps.length + 1 : Nat) : Int)) (by omega) (by omega) (by omega))) hS ?_
          refine JH.take 9 (listed' := [true, true, true, true, true, true, true, true, true, true, false, false, false, false]) rfl (by kernel_rfl) (by kernel_rfl) (by kernel_rfl) rfl trivial (fun w H => RX.rem rfl rfl (by omega) (r := (K : Int)) (by rw [Int.tmod_eq_emod_of_nonneg (by omega)]; exact hK)) hS ?_
          refine JH.take 10 (listed' := [true, true, true, true, true, true, true, true, true, true, true, false, false, false]) rfl (by kernel_rfl) (by kernel_rfl) (by kernel_rfl) rfl trivial (fun w H => RX.conv rfl (by rw [ki41]; rfl) ki3 (w_i64 (r := (K : Int)) (by omega) (by omega) (by omega))) hS ?_
          refine JH.take 11 (listed' := [true, true, true, true, true, true, true, true, true, true, true, true, false, false]) rfl (by kernel_rfl) (by kernel_rfl) (by kernel_rfl) rfl trivial (fun w H => RX.slice_h rfl rfl sl22 (fun a ha => by cases ha; rfl) (by omega) (by have := hof.le; omega) (r := K) rfl) hS ?_
          refine JH.take 12 (listed' := [true, true, true, true, true, true, true, true, true, true, true, true, true, false]) rfl (by kernel_rfl) (by kernel_rfl) (by kernel_rfl) rfl trivial (fun w H => RX.fieldAddr rfl fo24_4 rfl) hS ?_
          refine JH.all [13] (by kernel_rfl) (by decide) ?_
          refine JHO.does (listed' := [true, true, true, true, true, true, true, true, true, true, true, true, true, true]) rfl rfl trivial (EX.store (v := Value.slice _ _ _) H rfl rfl (i := 0) (l' := prgV (upto p K) (some ⟨g, 0, none⟩) K fc) rfl rfl (by simp [prgV]) sz22 rfl rfl) ?_
          rintro _ w H
          have hS : Hp w0 w (fs :: [(b30, cel s.v 39)] :: [(b7, cel s.v 39)] :: [(b4, cel (prgV p (some ⟨g, 0, none⟩) p.steps.length fc) 24)] :: F) := by first | exact H | exact H.drop | exact H.drop.drop | exact H.drop.drop.drop | exact H.drop.drop.drop.drop | exact H.drop.drop.drop.drop.drop | exact H.drop.drop.drop.drop.drop.drop | exact H.drop.drop.drop.drop.drop.drop.drop | exact H.drop.drop.drop.drop.drop.drop.drop.drop
          refine ⟨hS, ?_⟩
          refine JH.done (by kernel_rfl) ?_
          refine J.seq ?_
          refine J.seq ?_
          have hsk : SlAt ([(b13, cel (prgV (upto p K) (some ⟨g, 0, none⟩) K fc) 24)] :: fs :: [(b30, cel s.v 39)] :: [(b7, cel s.v 39)] :: [(b4, cel (prgV p (some ⟨g, 0, none⟩) p.steps.length fc) 24)] :: F) (some ⟨g, 0, none⟩) (stepsV (upto p K).steps) := sl_take (SlAt.cons (s := [(b13, cel (prgV (upto p K) (some ⟨g, 0, none⟩) K fc) 24)]) (mine_sl hof ([(b30, cel s.v 39)] :: [(b7, cel s.v 39)] :: [(b4, cel (prgV p (some ⟨g, 0, none⟩) p.steps.length fc) 24)] :: F)))
          refine J.region ?_
          refine JL.go trivial (RX.loadAgg H rfl (i := 0) (vs := prgV (upto p K) (some ⟨g, 0, none⟩) (upto p K).steps.length fc) rfl (by rw [hul]; rfl) ag24) ?_
          refine JL.does trivial (EX.call rfl cl16 rfl ((Fault_b (p := upto p K) H hT.cons.cons.cons.cons.cons (hE.at_ 9 (by decide) (by decide)).cons.cons.cons.cons.cons hsk (hp.upto K)))) ?_
          rintro _ w ⟨rfl, H⟩
          rw [upto_fault (.inl hfp)]
          refine JL.go trivial (RX.ne rfl rfl) ?_
          refine JL.go trivial (RX.movev (v := Value.bool _) rfl) ?_
          refine JL.go ⟨_, rfl, (by decide)⟩ (RX.loadAgg H rfl (i := 0) (vs := prgV (upto p K) (some ⟨g, 0, none⟩) (upto p K).steps.length fc) rfl (by rw [hul]; rfl) ag24) ?_
          refine JL.does ⟨_, rfl, (by decide)⟩ (EX.call rfl cl14 rfl ((Check_b (p := upto p K) H hT.cons.cons.cons.cons.cons (hE.at_ 9 (by decide) (by decide)).cons.cons.cons.cons.cons hsk (hp.upto K)))) ?_
          rintro _ w ⟨rfl, H⟩
          rw [upto_chk hfp]
          refine JL.go ⟨_, rfl, (by decide)⟩ (RX.ifnil_eql (v := errV E (chkP p)) rfl rfl hie.1 if30) ?_
          rw [hie.2]
          refine JL.go ⟨_, rfl, (by decide)⟩ (RX.movev (v := Value.bool _) rfl) ?_
          refine JL.go ⟨_, rfl, (by decide)⟩ (RX.bool_neq rfl rfl ud4) ?_
          refine JL.go trivial (RX.pick_f rfl (by decide)) ?_
          refine JL.nil ?_
          refine J.cond_f rfl (by simp) ?_
          refine J.skip ?_
          refine J.seq ?_
          refine J.seq ?_
          refine J.region ?_
          refine JL.go trivial (RX.movev (v := Value.bool _) rfl) ?_
          refine JL.go trivial (RX.not rfl) ?_
          refine JL.nil ?_
          refine J.cond_f rfl (by first | (rw [g1]; done) | (rw [g1]; rfl)) ?_
          refine J.skip ?_
          refine J.seq ?_
          refine J.region ?_
          refine JL.go trivial (RX.loadAgg H rfl (i := 4) (vs := prgV p (some ⟨g, 0, none⟩) p.steps.length fc) rfl rfl ag24) ?_
          refine JL.does trivial (EX.storeAgg H rfl rfl (i := 0) (vs := prgV p (some ⟨g, 0, none⟩) p.steps.length fc) (l' := prgV p (some ⟨g, 0, none⟩) p.steps.length fc) rfl prgV_cell (by simp [prgV]) sz24 rfl rfl) ?_
          rintro _ w H
          refine JL.nil ?_
          refine J.seq ?_
          obtain ⟨M, hM, hM2⟩ : ∃ M : Nat, more % 18446744073709551616 % (262144 - p.cells + 1) = (M : Int) ∧ p.cells + M ≤ 262144 := by
            have h1 := Int.emod_nonneg (more % 18446744073709551616) (show (262144 - p.cells + 1) ≠ 0 by omega)
            have h2 := Int.emod_lt_of_pos (more % 18446744073709551616) (show (0 : Int) < 262144 - p.cells + 1 by omega)
            exact ⟨(more % 18446744073709551616 % (262144 - p.cells + 1)).toNat, by omega, by omega⟩
          have hcm := addC_chk hck hM2
          refine J.held (fun w => Hp w0 w (fs :: [(b30, cel s.v 39)] :: [(b7, cel s.v 39)] :: [(b4, cel (prgV p (some ⟨g, 0, none⟩) p.steps.length fc) 24)] :: F)) hmix fun w hs => ?_
          replace H := H.same hs; clear hs
          have hS : Hp w0 w (fs :: [(b30, cel s.v 39)] :: [(b7, cel s.v 39)] :: [(b4, cel (prgV p (some ⟨g, 0, none⟩) p.steps.length fc) 24)] :: F) := by first | exact H | exact H.drop | exact H.drop.drop | exact H.drop.drop.drop | exact H.drop.drop.drop.drop | exact H.drop.drop.drop.drop.drop | exact H.drop.drop.drop.drop.drop.drop | exact H.drop.drop.drop.drop.drop.drop.drop | exact H.drop.drop.drop.drop.drop.drop.drop.drop
          refine JH.take 0 (listed' := [true, false, false, false, false, false, false, false, false, false, false, false, false, false]) rfl (by kernel_rfl) (by kernel_rfl) (by kernel_rfl) rfl trivial (fun w H => RX.fieldAddr rfl fo24_1 rfl) hS ?_
          refine JH.take 1 (listed' := [true, true, false, false, false, false, false, false, false, false, false, false, false, false]) rfl (by kernel_rfl) (by kernel_rfl) (by kernel_rfl) rfl trivial (fun w H => RX.load H rfl (i := 3) (v := .int .i64 p.cells) rfl rfl one3) hS ?_
          refine JH.take 2 (listed' := [true, true, true, false, false, false, false, false, false, false, false, false, false, false]) rfl (by kernel_rfl) (by kernel_rfl) (by kernel_rfl) rfl trivial (fun w H => RX.movev (v := Value.int _ _) rfl) hS ?_
          refine JH.take 3 (listed' := [true, true, true, true, false, false, false, false, false, false, false, false, false, false]) rfl (by kernel_rfl) (by kernel_rfl) (by kernel_rfl) rfl trivial (fun w H => RX.conv rfl (by rw [ki3]; rfl) ki41 (wrap_u64 _)) hS ?_
          refine JH.take 4 (listed' := [true, true, true, true, true, false, false, false, false, false, false, false, false, false]) rfl (by kernel_rfl) (by kernel_rfl) (by kernel_rfl) rfl trivial (fun w H => RX.fieldAddr rfl fo24_1 rfl) hS ?_
          refine JH.take 5 (listed' := [true, true, true, true, true, true, false, false, false, false, false, false, false, false]) rfl (by kernel_rfl) (by kernel_rfl) (by kernel_rfl) rfl trivial (fun w H => RX.load H rfl (i := 3) (v := .int .i64 p.cells) rfl rfl one3) hS ?_
          refine JH.take 6 (listed' := [true, true, true, true, true, true, true, false, false, false, false, false, false, false]) rfl (by kernel_rfl) (by kernel_rfl) (by kernel_rfl) rfl trivial (fun w H => RX.sub rfl rfl (w_i64 rfl (by omega) (by omega))) hS ?_
          refine JH.take 7 (listed' := [true, true, true, true, true, true, true, true, false, false, false, false, false, false]) rfl (by kernel_rfl) (by kernel_rfl) (by kernel_rfl) rfl trivial (fun w H => RX.add rfl rfl (w_i64 rfl (by omega) (by omega))) hS ?_
          refine JH.take 8 (listed' := [true, true, true, true, true, true, true, true, true, false, false, false, false, false]) rfl (by kernel_rfl) (by kernel_rfl) (by kernel_rfl) rfl trivial (fun w H => RX.conv rfl (by rw [ki3]; rfl) ki41 (w_u64 rfl (by omega) (by omega))) hS ?_
          refine JH.take 9 (listed' := [true, true, true, true, true, true, true, true, true, true, false, false, false, false]) rfl (by kernel_rfl) (by kernel_rfl) (by kernel_rfl) rfl trivial (fun w H => RX.rem rfl rfl (by omega) (r := (M : Int)) (by rw [Int.tmod_eq_emod_of_nonneg (by omega)]; exact hM)) hS ?_
          refine JH.take 10 (listed' := [true, true, true, true, true, true, true, true, true, true, true, false, false, false]) rfl (by kernel_rfl) (by kernel_rfl) (by kernel_rfl) rfl trivial (fun w H => RX.conv rfl (by rw [ki41]; rfl) ki3 (w_i64 (r := (M : Int)) (by omega) (by omega) (by omega))) hS ?_
          refine JH.take 11 (listed' := [true, true, true, true, true, true, true, true, true, true, true, true, false, false]) rfl (by kernel_rfl) (by kernel_rfl) (by kernel_rfl) rfl trivial (fun w H => RX.add rfl rfl (w_i64 rfl (by omega) (by omega))) hS ?_
          refine JH.take 12 (listed' := [true, true, true, true, true, true, true, true, true, true, true, true, true, false]) rfl (by kernel_rfl) (by kernel_rfl) (by kernel_rfl) rfl trivial (fun w H => RX.fieldAddr rfl fo24_1 rfl) hS ?_
          refine JH.all [13] (by kernel_rfl) (by decide) ?_
          refine JHO.does (listed' := [true, true, true, true, true, true, true, true, true, true, true, true, true, true]) rfl rfl trivial (EX.store (v := Value.int _ _) H rfl rfl (i := 0) (l' := prgV (addC p M) (some ⟨g, 0, none⟩) p.steps.length fc) rfl rfl (by simp [prgV]) sz3 rfl rfl) ?_
          rintro _ w H
          have hS : Hp w0 w (fs :: [(b30, cel s.v 39)] :: [(b7, cel s.v 39)] :: [(b4, cel (prgV p (some ⟨g, 0, none⟩) p.steps.length fc) 24)] :: F) := by first | exact H | exact H.drop | exact H.drop.drop | exact H.drop.drop.drop | exact H.drop.drop.drop.drop | exact H.drop.drop.drop.drop.drop | exact H.drop.drop.drop.drop.drop.drop | exact H.drop.drop.drop.drop.drop.drop.drop | exact H.drop.drop.drop.drop.drop.drop.drop.drop
          refine ⟨hS, ?_⟩
          refine JH.done (by kernel_rfl) ?_
          refine J.seq ?_
          refine J.seq ?_
          refine J.region ?_
          refine JL.go trivial (RX.loadAgg H rfl (i := 0) (vs := prgV (addC p M) (some ⟨g, 0, none⟩) p.steps.length fc) rfl rfl ag24) ?_
          refine JL.does trivial (EX.call rfl cl14 rfl ((Check_b (p := addC p M) H hT.cons.cons.cons.cons.cons (hE.at_ 9 (by decide) (by decide)).cons.cons.cons.cons.cons (mine_sl hof ([(b30, cel s.v 39)] :: [(b7, cel s.v 39)] :: [(b4, cel (prgV p (some ⟨g, 0, none⟩) p.steps.length fc) 24)] :: F)).cons ⟨hp.len, (by show i64ok (p.cells + M); unfold i64ok; omega), hp.inn, hp.out, hp.steps, hp.num⟩))) ?_
          rintro _ w ⟨rfl, H⟩
          rw [hcm]
          refine JL.go trivial (RX.ifnil_neq (v := Value.nilIface) rfl rfl rfl if30) ?_
          refine JL.nil ?_
          refine J.cond_f rfl rfl ?_
          refine J.skip ?_
          refine J.seq ?_
          refine J.region ?_
          refine JL.go trivial (RX.fieldAddr rfl fo24_0 rfl) ?_
          refine JL.go trivial (RX.load H rfl (i := 4) (v := .int .i64 p.len) rfl rfl one3) ?_
          refine JL.go trivial (RX.fieldAddr rfl fo24_1 rfl) ?_
          refine JL.go trivial (RX.load H rfl (i := 4) (v := .int .i64 p.cells) rfl rfl one3) ?_
          refine JL.go trivial (RX.fieldAddr rfl fo24_2 rfl) ?_
          refine JL.go trivial (RX.load H rfl (i := 4) (v := .int .i64 p.inn) rfl rfl one3) ?_
          refine JL.go trivial (RX.fieldAddr rfl fo24_3 rfl) ?_
          refine JL.go trivial (RX.load H rfl (i := 4) (v := .int .i64 p.out) rfl rfl one3) ?_
          refine JL.go trivial (RX.loadAgg H rfl (i := 3) (vs := s.v) rfl rfl ag39) ?_
          refine JL.does trivial (EX.buildSlice (pv := [(0, .agg s.v.toArray)]) (l := s.v) (e := 39) H rfl (by kernel_rfl)) ?_
          rintro _ w ⟨br, rfl, H⟩
          refine JL.go trivial (RX.build (pv := [(0, .int .i64 p.len), (1, .int .i64 p.cells), (2, .int .i64 p.inn), (3, .int .i64 p.out), (4, .slice (some ⟨br, 0, none⟩) 1 1)]) (res := prgV (oneQ p s) (some ⟨br, 0, none⟩) 1 1) rfl (by kernel_rfl)) ?_
          refine JL.does trivial (EX.alloc H zr24 rfl) ?_
          rintro _ w ⟨b14, rfl, H⟩
          refine JL.does trivial (EX.storeAgg H rfl rfl (i := 0) (vs := prgV (oneQ p s) (some ⟨br, 0, none⟩) 1 1) (l' := prgV (oneQ p s) (some ⟨br, 0, none⟩) 1 1) rfl prgV_cell (by simp [prgV]) sz24 rfl rfl) ?_
          rintro _ w H
          refine JL.nil ?_
          refine J.seq ?_
          have hi1 : isErr (errV E (chkP (oneQ p s))) = true ∧ isNil (errV E (chkP (oneQ p s))) = decide (chkP (oneQ p s) = 0) := errV_ie hE (chkP_le _)
          have hcs := addS_chk (s := s) (by omega) hck (by omega) (by omega)
          have hal := addS_len p s
          refine J.region ?_
          refine JL.go trivial (RX.loadAgg H rfl (i := 0) (vs := prgV (oneQ p s) (some ⟨br, 0, none⟩) 1 1) rfl rfl ag24) ?_
          refine JL.does trivial (EX.call rfl cl14 rfl ((Check_b (p := oneQ p s) H hT.cons.cons.cons.cons.cons.cons.cons (hE.at_ 9 (by decide) (by decide)).cons.cons.cons.cons.cons.cons.cons (SlAt.cons (SlAt.here (show s.v.take 7 = stepsV [s] by simp [stepsV, Stp.v]))) ⟨hp.len, hp.cells, hp.inn, hp.out, (fun x hx => by rw [List.mem_singleton.1 hx]; exact hs), (show (1 : Nat) ≤ 9223372036854775807 by decide)⟩))) ?_
          rintro _ w ⟨rfl, H⟩
          refine JL.go trivial (RX.ifnil_eql (v := errV E (chkP (oneQ p s))) rfl rfl hi1.1 if30) ?_
          rw [hi1.2]
          refine JL.go trivial (RX.assignv (v := Value.bool _) rfl) ?_
          refine JL.nil ?_
          refine J.seq ?_
          refine J.region ?_
          refine JL.go trivial (RX.loadAgg H rfl (i := 6) (vs := prgV p (some ⟨g, 0, none⟩) p.steps.length fc) rfl rfl ag24) ?_
          refine JL.does trivial (EX.storeAgg H rfl rfl (i := 2) (vs := prgV p (some ⟨g, 0, none⟩) p.steps.length fc) (l' := prgV p (some ⟨g, 0, none⟩) p.steps.length fc) rfl prgV_cell (by simp [prgV]) sz24 rfl rfl) ?_
          rintro _ w H
          refine JL.nil ?_
          refine J.seq ?_
          refine J.held (fun w => Hp w0 w (fs :: [(b30, cel s.v 39)] :: [(b7, cel s.v 39)] :: [(b4, cel (prgV p (some ⟨g, 0, none⟩) p.steps.length fc) 24)] :: F)) hmix fun w hs => ?_
          replace H := H.same hs; clear hs
          have hS : Hp w0 w (fs :: [(b30, cel s.v 39)] :: [(b7, cel s.v 39)] :: [(b4, cel (prgV p (some ⟨g, 0, none⟩) p.steps.length fc) 24)] :: F) := by first | exact H | exact H.drop | exact H.drop.drop | exact H.drop.drop.drop | exact H.drop.drop.drop.drop | exact H.drop.drop.drop.drop.drop | exact H.drop.drop.drop.drop.drop.drop | exact H.drop.drop.drop.drop.drop.drop.drop | exact H.drop.drop.drop.drop.drop.drop.drop.drop
          refine JH.take 1 (listed' := [false, true, false, false, false, false, false, false, false]) rfl (by kernel_rfl) (by kernel_rfl) (by kernel_rfl) rfl trivial (fun w H => RX.fieldAddr rfl fo24_4 rfl) hS ?_
          refine JH.take 2 (listed' := [false, true, true, false, false, false, false, false, false]) rfl (by kernel_rfl) (by kernel_rfl) (by kernel_rfl) rfl trivial (fun w H => RX.load H rfl (i := 3) (v := .slice (some ⟨g, 0, none⟩) p.steps.length fc) rfl rfl one22) hS ?_
          refine JH.take 4 (listed' := [false, true, true, false, true, false, false, false, false]) rfl (by kernel_rfl) (by kernel_rfl) (by kernel_rfl) rfl trivial (fun w H => RX.loadAgg H rfl (i := 2) (vs := s.v) rfl rfl ag39) hS ?_
          refine JH.all [0, 5] (by kernel_rfl) (by decide) ?_
          refine ⟨?_, ?_⟩
          · skip
            refine JHO.does (listed' := [true, true, true, false, true, false, false, false, false]) rfl rfl trivial (EX.buildSlice0 H elS) ?_
            rintro _ w ⟨ba, rfl, H⟩
            have hS : Hp w0 w (fs :: [(b30, cel s.v 39)] :: [(b7, cel s.v 39)] :: [(b4, cel (prgV p (some ⟨g, 0, none⟩) p.steps.length fc) 24)] :: F) := by first | exact H | exact H.drop | exact H.drop.drop | exact H.drop.drop.drop | exact H.drop.drop.drop.drop | exact H.drop.drop.drop.drop.drop | exact H.drop.drop.drop.drop.drop.drop | exact H.drop.drop.drop.drop.drop.drop.drop | exact H.drop.drop.drop.drop.drop.drop.drop.drop
            refine ⟨hS, ?_⟩
            refine JH.all [3, 5] (by kernel_rfl) (by decide) ?_
            refine ⟨?_, ?_⟩
            · skip
              refine JHO.does (listed' := [true, true, true, true, true, false, false, false, false]) rfl rfl trivial (EX.append (ys := stepsV p.steps) (L' := fun s' => s' :: [(b14, cel (prgV (oneQ p s) (some ⟨br, 0, none⟩) 1 1) 24)] :: [(br, cel s.v 39)] :: [(b13, cel (prgV p (some ⟨g, 0, none⟩) p.steps.length fc) 24)] :: fs :: [(b30, cel s.v 39)] :: [(b7, cel s.v 39)] :: [(b4, cel (prgV p (some ⟨g, 0, none⟩) p.steps.length fc) 24)] :: F) H elS rfl rfl (i := 0) rfl OwnSl.empty (mine_sl hof ([(b30, cel s.v 39)] :: [(b7, cel s.v 39)] :: [(b4, cel (prgV p (some ⟨g, 0, none⟩) p.steps.length fc) 24)] :: F)).cons.cons.cons.cons (stepsV_len _) (stepsV_cell _) (by decide) (by omega) (by omega) (fun _ => rfl)) ?_
              rintro v w ⟨q1, d1, t1, hv, hq1, H⟩
              rw [Nat.zero_add] at hv hq1
              rw [List.nil_append] at hq1
              subst hv
              have hS : Hp w0 w (fs :: [(b30, cel s.v 39)] :: [(b7, cel s.v 39)] :: [(b4, cel (prgV p (some ⟨g, 0, none⟩) p.steps.length fc) 24)] :: F) := by first | exact H | exact H.drop | exact H.drop.drop | exact H.drop.drop.drop | exact H.drop.drop.drop.drop | exact H.drop.drop.drop.drop.drop | exact H.drop.drop.drop.drop.drop.drop | exact H.drop.drop.drop.drop.drop.drop.drop | exact H.drop.drop.drop.drop.drop.drop.drop.drop
              refine ⟨hS, ?_⟩
              refine JH.all [5] (by kernel_rfl) (by decide) ?_
              refine JHO.does (listed' := [true, true, true, true, true, true, false, false, false]) rfl rfl trivial (EX.buildSlice (pv := [(0, .agg s.v.toArray)]) (l := s.v) (e := 39) H rfl (by kernel_rfl)) ?_
              rintro _ w ⟨bb, rfl, H⟩
              have hS : Hp w0 w (fs :: [(b30, cel s.v 39)] :: [(b7, cel s.v 39)] :: [(b4, cel (prgV p (some ⟨g, 0, none⟩) p.steps.length fc) 24)] :: F) := by first | exact H | exact H.drop | exact H.drop.drop | exact H.drop.drop.drop | exact H.drop.drop.drop.drop | exact H.drop.drop.drop.drop.drop | exact H.drop.drop.drop.drop.drop.drop | exact H.drop.drop.drop.drop.drop.drop.drop | exact H.drop.drop.drop.drop.drop.drop.drop.drop
              refine ⟨hS, ?_⟩
              refine JH.all [6] (by kernel_rfl) (by decide) ?_
              refine JHO.does (listed' := [true, true, true, true, true, true, true, false, false]) rfl rfl trivial (EX.append (ys := s.v) (L' := fun s' => [(bb, cel s.v 39)] :: s' :: [(b14, cel (prgV (oneQ p s) (some ⟨br, 0, none⟩) 1 1) 24)] :: [(br, cel s.v 39)] :: [(b13, cel (prgV p (some ⟨g, 0, none⟩) p.steps.length fc) 24)] :: fs :: [(b30, cel s.v 39)] :: [(b7, cel s.v 39)] :: [(b4, cel (prgV p (some ⟨g, 0, none⟩) p.steps.length fc) 24)] :: F) H elS rfl rfl (i := 1) rfl hq1 (SlAt.here (show s.v.take s.v.length = s.v by simp)) rfl (stp_cell _) (by decide) (by omega) (by omega) (fun _ => rfl)) ?_
              rintro _ w ⟨q2, d2, t2, rfl, hq2, H⟩
              replace H := H.drop
              rw [show stepsV p.steps ++ s.v = stepsV (addS p s).steps by simp [addS, stepsV]] at hq2
              have hS : Hp w0 w (fs :: [(b30, cel s.v 39)] :: [(b7, cel s.v 39)] :: [(b4, cel (prgV p (some ⟨g, 0, none⟩) p.steps.length fc) 24)] :: F) := by first | exact H | exact H.drop | exact H.drop.drop | exact H.drop.drop.drop | exact H.drop.drop.drop.drop | exact H.drop.drop.drop.drop.drop | exact H.drop.drop.drop.drop.drop.drop | exact H.drop.drop.drop.drop.drop.drop.drop | exact H.drop.drop.drop.drop.drop.drop.drop.drop
              refine ⟨hS, ?_⟩
              refine JH.take 7 (listed' := [true, true, true, true, true, true, true, true, false]) rfl (by kernel_rfl) (by kernel_rfl) (by kernel_rfl) rfl trivial (fun w H => RX.fieldAddr rfl fo24_4 rfl) hS ?_
              refine JH.all [8] (by kernel_rfl) (by decide) ?_
              refine JHO.does (listed' := [true, true, true, true, true, true, true, true, true]) rfl rfl trivial (EX.store (v := Value.slice _ _ _) H rfl rfl (i := 3) (l' := prgV (addS p s) q2 (p.steps.length + 1) d2) rfl rfl (by simp [prgV]) sz22 rfl rfl) ?_
              rintro _ w H
              have hS : Hp w0 w (fs :: [(b30, cel s.v 39)] :: [(b7, cel s.v 39)] :: [(b4, cel (prgV p (some ⟨g, 0, none⟩) p.steps.length fc) 24)] :: F) := by first | exact H | exact H.drop | exact H.drop.drop | exact H.drop.drop.drop | exact H.drop.drop.drop.drop | exact H.drop.drop.drop.drop.drop | exact H.drop.drop.drop.drop.drop.drop | exact H.drop.drop.drop.drop.drop.drop.drop | exact H.drop.drop.drop.drop.drop.drop.drop.drop
              refine ⟨hS, ?_⟩
              refine JH.done (by kernel_rfl) ?_
              refine J.seq ?_
              have hqs := hq2.slAt (L := [])
              have hqw : (addS p s).Ow := ⟨hp.len, hp.cells, hp.inn, hp.out, (fun x hx => by
                rcases List.mem_append.1 hx with h | h
                · exact hp.steps x h
                · rw [List.mem_singleton.1 h]; exact hs), (by rw [hal]; omega)⟩
              refine J.region ?_
              refine JL.go trivial (RX.loadAgg H rfl (i := 3) (vs := prgV (addS p s) q2 (addS p s).steps.length d2) rfl (by rw [hal]; rfl) ag24) ?_
              refine JL.does trivial (EX.call rfl cl11 rfl ((Acts_b (p := addS p s) H hT.cons.cons.cons.cons.cons.cons.cons.cons (hE.at_ 9 (by decide) (by decide)).cons.cons.cons.cons.cons.cons.cons.cons (sl_up hqs (by simp)) hqw))) ?_
              rintro _ w ⟨rfl, H⟩
              rw [hcs]
              refine JL.go trivial (RX.movev (v := Value.tuple _) rfl) ?_
              refine JL.go trivial (RX.extract rfl rfl) ?_
              refine JL.go trivial (RX.extract (v := errV E (chkP (oneQ p s))) rfl rfl) ?_
              refine JL.go trivial (RX.assignv (v := Value.int _ _) rfl) ?_
              refine JL.go trivial (RX.assignv (v := errV E (chkP (oneQ p s))) rfl) ?_
              refine JL.nil ?_
              refine J.seq ?_
              refine J.region ?_
              refine JL.go trivial (RX.movev (v := Value.bool _) rfl) ?_
              refine JL.go trivial (RX.loadAgg H rfl (i := 3) (vs := prgV (addS p s) q2 (addS p s).steps.length d2) rfl (by rw [hal]; rfl) ag24) ?_
              refine JL.does trivial (EX.call rfl cl14 rfl ((Check_b (p := addS p s) H hT.cons.cons.cons.cons.cons.cons.cons.cons (hE.at_ 9 (by decide) (by decide)).cons.cons.cons.cons.cons.cons.cons.cons (sl_up hqs (by simp)) hqw))) ?_
              rintro _ w ⟨rfl, H⟩
              rw [hcs]
              refine JL.go trivial (RX.ifnil_eql (v := errV E (chkP (oneQ p s))) rfl rfl hi1.1 if30) ?_
              rw [hi1.2]
              refine JL.go trivial (RX.bool_eql rfl rfl ud4) ?_
              refine JL.go trivial (RX.movev (v := Value.bool _) rfl) ?_
              refine JL.go ⟨_, rfl, (by simp)⟩ (RX.movev (v := Value.bool _) rfl) ?_
              refine JL.go ⟨_, rfl, (by simp)⟩ (RX.not rfl) ?_
              refine JL.go ⟨_, rfl, (by simp)⟩ (RX.movev (v := Value.bool _) rfl) ?_
              refine JL.splitS 165 rfl (fun a9 => ?_) (fun a9 => ?_)
              · skip
                first | have a9p := of_decide_eq_true a9 | skip
                refine JL.no ⟨_, rfl, gno a9⟩ ?_
                refine JL.no ⟨_, rfl, gno a9⟩ ?_
                refine JL.no ⟨_, rfl, gno a9⟩ ?_
                refine JL.no ⟨_, rfl, nofun⟩ ?_
                refine JL.no ⟨_, rfl, nofun⟩ ?_
                refine JL.no ⟨_, rfl, nofun⟩ ?_
                refine JL.no ⟨_, rfl, nofun⟩ ?_
                refine JL.no ⟨_, rfl, nofun⟩ ?_
                refine JL.no ⟨_, rfl, nofun⟩ ?_
                refine JL.no ⟨_, rfl, gno a9⟩ ?_
                refine JL.go ⟨_, rfl, (by simp)⟩ (RX.pick_t rfl a9) ?_
                refine JL.go trivial (RX.pick_t rfl (by simp)) ?_
                refine JL.go trivial (RX.assignv (v := Value.bool _) rfl) ?_
                refine JL.nil ?_
                refine J.ret1 (v := Value.bool _) Tryd.func6 rfl rfl ?_
                first
                | (refine ⟨_, rfl, ?_, H.drop.drop.drop.drop.drop.drop.drop.drop⟩
                   first
                   | rfl
                   | rw [decide_eq_true hact])
                | exact ⟨_, rfl, rfl, H.drop.drop.drop.drop.drop⟩
              · skip
                first | have a9p := of_decide_eq_false a9 | skip
                have hc1 : chkP (oneQ p s) = 0 := by simpa using a9
                have hff := form_facts (oneQ_form hc1)
                have hact := addS_acts hck (hcs.trans hc1)
                refine JL.go ⟨_, rfl, a9⟩ (RX.movev (v := errV E (chkP (oneQ p s))) rfl) ?_
                refine JL.go ⟨_, rfl, a9⟩ (RX.ifnil_eql (v := errV E (chkP (oneQ p s))) rfl rfl hi1.1 if30) ?_
                refine JL.go ⟨_, rfl, a9⟩ (RX.movev (v := Value.bool _) rfl) ?_
                refine JL.go ⟨_, rfl, (by rw [hi1.2, decide_eq_true hc1])⟩ (RX.movev (v := Value.int _ _) rfl) ?_
                refine JL.go ⟨_, rfl, (by rw [hi1.2, decide_eq_true hc1])⟩ (RX.movev (v := Value.int _ _) rfl) ?_
                refine JL.go ⟨_, rfl, (by rw [hi1.2, decide_eq_true hc1])⟩ (RX.fieldAddr rfl fo39_4 rfl) ?_
                refine JL.go ⟨_, rfl, (by rw [hi1.2, decide_eq_true hc1])⟩ (RX.load H rfl (i := 6) (v := .int .i64 s.count) rfl rfl one3) ?_
                refine JL.go ⟨_, rfl, (by rw [hi1.2, decide_eq_true hc1])⟩ (RX.add rfl rfl (w_i64 rfl (by omega) (by omega))) ?_
                refine JL.go ⟨_, rfl, (by rw [hi1.2, decide_eq_true hc1])⟩ (RX.eq rfl rfl) ?_
                refine JL.go ⟨_, rfl, a9⟩ (RX.pick_t rfl (by rw [hi1.2, decide_eq_true hc1])) ?_
                refine JL.go ⟨_, rfl, (by simp)⟩ (RX.pick_f rfl a9) ?_
                refine JL.go trivial (RX.pick_t rfl (by simp)) ?_
                refine JL.go trivial (RX.assignv (v := Value.bool _) rfl) ?_
                refine JL.nil ?_
                refine J.ret1 (v := Value.bool _) Tryd.func6 rfl rfl ?_
                first
                | (refine ⟨_, rfl, ?_, H.drop.drop.drop.drop.drop.drop.drop.drop⟩
                   first
                   | rfl
                   | rw [decide_eq_true hact])
                | exact ⟨_, rfl, rfl, H.drop.drop.drop.drop.drop⟩
            · skip
              refine JHO.does (listed' := [true, true, true, false, true, true, false, false, false]) rfl rfl trivial (EX.buildSlice (pv := [(0, .agg s.v.toArray)]) (l := s.v) (e := 39) H rfl (by kernel_rfl)) ?_
              rintro _ w ⟨bb, rfl, H⟩
              have hS : Hp w0 w (fs :: [(b30, cel s.v 39)] :: [(b7, cel s.v 39)] :: [(b4, cel (prgV p (some ⟨g, 0, none⟩) p.steps.length fc) 24)] :: F) := by first | exact H | exact H.drop | exact H.drop.drop | exact H.drop.drop.drop | exact H.drop.drop.drop.drop | exact H.drop.drop.drop.drop.drop | exact H.drop.drop.drop.drop.drop.drop | exact H.drop.drop.drop.drop.drop.drop.drop | exact H.drop.drop.drop.drop.drop.drop.drop.drop
              refine ⟨hS, ?_⟩
              refine JH.all [3] (by kernel_rfl) (by decide) ?_
              refine JHO.does (listed' := [true, true, true, true, true, true, false, false, false]) rfl rfl trivial (EX.append (ys := stepsV p.steps) (L' := fun s' => [(bb, cel s.v 39)] :: s' :: [(b14, cel (prgV (oneQ p s) (some ⟨br, 0, none⟩) 1 1) 24)] :: [(br, cel s.v 39)] :: [(b13, cel (prgV p (some ⟨g, 0, none⟩) p.steps.length fc) 24)] :: fs :: [(b30, cel s.v 39)] :: [(b7, cel s.v 39)] :: [(b4, cel (prgV p (some ⟨g, 0, none⟩) p.steps.length fc) 24)] :: F) H elS rfl rfl (i := 1) rfl OwnSl.empty (mine_sl hof ([(b30, cel s.v 39)] :: [(b7, cel s.v 39)] :: [(b4, cel (prgV p (some ⟨g, 0, none⟩) p.steps.length fc) 24)] :: F)).cons.cons.cons.cons.cons (stepsV_len _) (stepsV_cell _) (by decide) (by omega) (by omega) (fun _ => rfl)) ?_
              rintro v w ⟨q1, d1, t1, hv, hq1, H⟩
              rw [Nat.zero_add] at hv hq1
              rw [List.nil_append] at hq1
              subst hv
              have hS : Hp w0 w (fs :: [(b30, cel s.v 39)] :: [(b7, cel s.v 39)] :: [(b4, cel (prgV p (some ⟨g, 0, none⟩) p.steps.length fc) 24)] :: F) := by first | exact H | exact H.drop | exact H.drop.drop | exact H.drop.drop.drop | exact H.drop.drop.drop.drop | exact H.drop.drop.drop.drop.drop | exact H.drop.drop.drop.drop.drop.drop | exact H.drop.drop.drop.drop.drop.drop.drop | exact H.drop.drop.drop.drop.drop.drop.drop.drop
              refine ⟨hS, ?_⟩
              refine JH.all [6] (by kernel_rfl) (by decide) ?_
              refine JHO.does (listed' := [true, true, true, true, true, true, true, false, false]) rfl rfl trivial (EX.append (ys := s.v) (L' := fun s' => [(bb, cel s.v 39)] :: s' :: [(b14, cel (prgV (oneQ p s) (some ⟨br, 0, none⟩) 1 1) 24)] :: [(br, cel s.v 39)] :: [(b13, cel (prgV p (some ⟨g, 0, none⟩) p.steps.length fc) 24)] :: fs :: [(b30, cel s.v 39)] :: [(b7, cel s.v 39)] :: [(b4, cel (prgV p (some ⟨g, 0, none⟩) p.steps.length fc) 24)] :: F) H elS rfl rfl (i := 1) rfl hq1 (SlAt.here (show s.v.take s.v.length = s.v by simp)) rfl (stp_cell _) (by decide) (by omega) (by omega) (fun _ => rfl)) ?_
              rintro _ w ⟨q2, d2, t2, rfl, hq2, H⟩
              replace H := H.drop
              rw [show stepsV p.steps ++ s.v = stepsV (addS p s).steps by simp [addS, stepsV]] at hq2
              have hS : Hp w0 w (fs :: [(b30, cel s.v 39)] :: [(b7, cel s.v 39)] :: [(b4, cel (prgV p (some ⟨g, 0, none⟩) p.steps.length fc) 24)] :: F) := by first | exact H | exact H.drop | exact H.drop.drop | exact H.drop.drop.drop | exact H.drop.drop.drop.drop | exact H.drop.drop.drop.drop.drop | exact H.drop.drop.drop.drop.drop.drop | exact H.drop.drop.drop.drop.drop.drop.drop | exact H.drop.drop.drop.drop.drop.drop.drop.drop
              refine ⟨hS, ?_⟩
              refine JH.take 7 (listed' := [true, true, true, true, true, true, true, true, false]) rfl (by kernel_rfl) (by kernel_rfl) (by kernel_rfl) rfl trivial (fun w H => RX.fieldAddr rfl fo24_4 rfl) hS ?_
              refine JH.all [8] (by kernel_rfl) (by decide) ?_
              refine JHO.does (listed' := [true, true, true, true, true, true, true, true, true]) rfl rfl trivial (EX.store (v := Value.slice _ _ _) H rfl rfl (i := 3) (l' := prgV (addS p s) q2 (p.steps.length + 1) d2) rfl rfl (by simp [prgV]) sz22 rfl rfl) ?_
              rintro _ w H
              have hS : Hp w0 w (fs :: [(b30, cel s.v 39)] :: [(b7, cel s.v 39)] :: [(b4, cel (prgV p (some ⟨g, 0, none⟩) p.steps.length fc) 24)] :: F) := by first | exact H | exact H.drop | exact H.drop.drop | exact H.drop.drop.drop | exact H.drop.drop.drop.drop | exact H.drop.drop.drop.drop.drop | exact H.drop.drop.drop.drop.drop.drop | exact H.drop.drop.drop.drop.drop.drop.drop | exact H.drop.drop.drop.drop.drop.drop.drop.drop
              refine ⟨hS, ?_⟩
              refine JH.done (by kernel_rfl) ?_
              refine J.seq ?_
              have hqs := hq2.slAt (L := [])
              have hqw : (addS p s).Ow := ⟨hp.len, hp.cells, hp.inn, hp.out, (fun x hx => by
                rcases List.mem_append.1 hx with h | h
                · exact hp.steps x h
                · rw [List.mem_singleton.1 h]; exact hs), (by rw [hal]; omega)⟩
              refine J.region ?_
              refine JL.go trivial (RX.loadAgg H rfl (i := 3) (vs := prgV (addS p s) q2 (addS p s).steps.length d2) rfl (by rw [hal]; rfl) ag24) ?_
              refine JL.does trivial (EX.call rfl cl11 rfl ((Acts_b (p := addS p s) H hT.cons.cons.cons.cons.cons.cons.cons.cons (hE.at_ 9 (by decide) (by decide)).cons.cons.cons.cons.cons.cons.cons.cons (sl_up hqs (by simp)) hqw))) ?_
              rintro _ w ⟨rfl, H⟩
              rw [hcs]
              refine JL.go trivial (RX.movev (v := Value.tuple _) rfl) ?_
              refine JL.go trivial (RX.extract rfl rfl) ?_
              refine JL.go trivial (RX.extract (v := errV E (chkP (oneQ p s))) rfl rfl) ?_
              refine JL.go trivial (RX.assignv (v := Value.int _ _) rfl) ?_
              refine JL.go trivial (RX.assignv (v := errV E (chkP (oneQ p s))) rfl) ?_
              refine JL.nil ?_
              refine J.seq ?_
              refine J.region ?_
              refine JL.go trivial (RX.movev (v := Value.bool _) rfl) ?_
              refine JL.go trivial (RX.loadAgg H rfl (i := 3) (vs := prgV (addS p s) q2 (addS p s).steps.length d2) rfl (by rw [hal]; rfl) ag24) ?_
              refine JL.does trivial (EX.call rfl cl14 rfl ((Check_b (p := addS p s) H hT.cons.cons.cons.cons.cons.cons.cons.cons (hE.at_ 9 (by decide) (by decide)).cons.cons.cons.cons.cons.cons.cons.cons (sl_up hqs (by simp)) hqw))) ?_
              rintro _ w ⟨rfl, H⟩
              rw [hcs]
              refine JL.go trivial (RX.ifnil_eql (v := errV E (chkP (oneQ p s))) rfl rfl hi1.1 if30) ?_
              rw [hi1.2]
              refine JL.go trivial (RX.bool_eql rfl rfl ud4) ?_
              refine JL.go trivial (RX.movev (v := Value.bool _) rfl) ?_
              refine JL.go ⟨_, rfl, (by simp)⟩ (RX.movev (v := Value.bool _) rfl) ?_
              refine JL.go ⟨_, rfl, (by simp)⟩ (RX.not rfl) ?_
              refine JL.go ⟨_, rfl, (by simp)⟩ (RX.movev (v := Value.bool _) rfl) ?_
              refine JL.splitS 165 rfl (fun a9 => ?_) (fun a9 => ?_)
              · skip
                first | have a9p := of_decide_eq_true a9 | skip
                refine JL.no ⟨_, rfl, gno a9⟩ ?_
                refine JL.no ⟨_, rfl, gno a9⟩ ?_
                refine JL.no ⟨_, rfl, gno a9⟩ ?_
                refine JL.no ⟨_, rfl, nofun⟩ ?_
                refine JL.no ⟨_, rfl, nofun⟩ ?_
                refine JL.no ⟨_, rfl, nofun⟩ ?_
                refine JL.no ⟨_, rfl, nofun⟩ ?_
                refine JL.no ⟨_, rfl, nofun⟩ ?_
                refine JL.no ⟨_, rfl, nofun⟩ ?_
                refine JL.no ⟨_, rfl, gno a9⟩ ?_
                refine JL.go ⟨_, rfl, (by simp)⟩ (RX.pick_t rfl a9) ?_
                refine JL.go trivial (RX.pick_t rfl (by simp)) ?_
                refine JL.go trivial (RX.assignv (v := Value.bool _) rfl) ?_
                refine JL.nil ?_
                refine J.ret1 (v := Value.bool _) Tryd.func6 rfl rfl ?_
                first
                | (refine ⟨_, rfl, ?_, H.drop.drop.drop.drop.drop.drop.drop.drop⟩
                   first
                   | rfl
                   | rw [decide_eq_true hact])
                | exact ⟨_, rfl, rfl, H.drop.drop.drop.drop.drop⟩
              · skip
                first | have a9p := of_decide_eq_false a9 | skip
                have hc1 : chkP (oneQ p s) = 0 := by simpa using a9
                have hff := form_facts (oneQ_form hc1)
                have hact := addS_acts hck (hcs.trans hc1)
                refine JL.go ⟨_, rfl, a9⟩ (RX.movev (v := errV E (chkP (oneQ p s))) rfl) ?_
                refine JL.go ⟨_, rfl, a9⟩ (RX.ifnil_eql (v := errV E (chkP (oneQ p s))) rfl rfl hi1.1 if30) ?_
                refine JL.go ⟨_, rfl, a9⟩ (RX.movev (v := Value.bool _) rfl) ?_
                refine JL.go ⟨_, rfl, (by rw [hi1.2, decide_eq_true hc1])⟩ (RX.movev (v := Value.int _ _) rfl) ?_
                refine JL.go ⟨_, rfl, (by rw [hi1.2, decide_eq_true hc1])⟩ (RX.movev (v := Value.int _ _) rfl) ?_
                refine JL.go ⟨_, rfl, (by rw [hi1.2, decide_eq_true hc1])⟩ (RX.fieldAddr rfl fo39_4 rfl) ?_
                refine JL.go ⟨_, rfl, (by rw [hi1.2, decide_eq_true hc1])⟩ (RX.load H rfl (i := 6) (v := .int .i64 s.count) rfl rfl one3) ?_
                refine JL.go ⟨_, rfl, (by rw [hi1.2, decide_eq_true hc1])⟩ (RX.add rfl rfl (w_i64 rfl (by omega) (by omega))) ?_
                refine JL.go ⟨_, rfl, (by rw [hi1.2, decide_eq_true hc1])⟩ (RX.eq rfl rfl) ?_
                refine JL.go ⟨_, rfl, a9⟩ (RX.pick_t rfl (by rw [hi1.2, decide_eq_true hc1])) ?_
                refine JL.go ⟨_, rfl, (by simp)⟩ (RX.pick_f rfl a9) ?_
                refine JL.go trivial (RX.pick_t rfl (by simp)) ?_
                refine JL.go trivial (RX.assignv (v := Value.bool _) rfl) ?_
                refine JL.nil ?_
                refine J.ret1 (v := Value.bool _) Tryd.func6 rfl rfl ?_
                first
                | (refine ⟨_, rfl, ?_, H.drop.drop.drop.drop.drop.drop.drop.drop⟩
                   first
                   | rfl
                   | rw [decide_eq_true hact])
                | exact ⟨_, rfl, rfl, H.drop.drop.drop.drop.drop⟩
          · skip
            refine JHO.does (listed' := [false, true, true, false, true, true, false, false, false]) rfl rfl trivial (EX.buildSlice (pv := [(0, .agg s.v.toArray)]) (l := s.v) (e := 39) H rfl (by kernel_rfl)) ?_
            rintro _ w ⟨bb, rfl, H⟩
            have hS : Hp w0 w (fs :: [(b30, cel s.v 39)] :: [(b7, cel s.v 39)] :: [(b4, cel (prgV p (some ⟨g, 0, none⟩) p.steps.length fc) 24)] :: F) := by first | exact H | exact H.drop | exact H.drop.drop | exact H.drop.drop.drop | exact H.drop.drop.drop.drop | exact H.drop.drop.drop.drop.drop | exact H.drop.drop.drop.drop.drop.drop | exact H.drop.drop.drop.drop.drop.drop.drop | exact H.drop.drop.drop.drop.drop.drop.drop.drop
            refine ⟨hS, ?_⟩
            refine JH.all [0] (by kernel_rfl) (by decide) ?_
            refine JHO.does (listed' := [true, true, true, false, true, true, false, false, false]) rfl rfl trivial (EX.buildSlice0 H elS) ?_
            rintro _ w ⟨ba, rfl, H⟩
            have hS : Hp w0 w (fs :: [(b30, cel s.v 39)] :: [(b7, cel s.v 39)] :: [(b4, cel (prgV p (some ⟨g, 0, none⟩) p.steps.length fc) 24)] :: F) := by first | exact H | exact H.drop | exact H.drop.drop | exact H.drop.drop.drop | exact H.drop.drop.drop.drop | exact H.drop.drop.drop.drop.drop | exact H.drop.drop.drop.drop.drop.drop | exact H.drop.drop.drop.drop.drop.drop.drop | exact H.drop.drop.drop.drop.drop.drop.drop.drop
            refine ⟨hS, ?_⟩
            refine JH.all [3] (by kernel_rfl) (by decide) ?_
            refine JHO.does (listed' := [true, true, true, true, true, true, false, false, false]) rfl rfl trivial (EX.append (ys := stepsV p.steps) (L' := fun s' => s' :: [(bb, cel s.v 39)] :: [(b14, cel (prgV (oneQ p s) (some ⟨br, 0, none⟩) 1 1) 24)] :: [(br, cel s.v 39)] :: [(b13, cel (prgV p (some ⟨g, 0, none⟩) p.steps.length fc) 24)] :: fs :: [(b30, cel s.v 39)] :: [(b7, cel s.v 39)] :: [(b4, cel (prgV p (some ⟨g, 0, none⟩) p.steps.length fc) 24)] :: F) H elS rfl rfl (i := 0) rfl OwnSl.empty (mine_sl hof ([(b30, cel s.v 39)] :: [(b7, cel s.v 39)] :: [(b4, cel (prgV p (some ⟨g, 0, none⟩) p.steps.length fc) 24)] :: F)).cons.cons.cons.cons.cons (stepsV_len _) (stepsV_cell _) (by decide) (by omega) (by omega) (fun _ => rfl)) ?_
            rintro v w ⟨q1, d1, t1, hv, hq1, H⟩
            rw [Nat.zero_add] at hv hq1
            rw [List.nil_append] at hq1
            subst hv
            have hS : Hp w0 w (fs :: [(b30, cel s.v 39)] :: [(b7, cel s.v 39)] :: [(b4, cel (prgV p (some ⟨g, 0, none⟩) p.steps.length fc) 24)] :: F) := by first | exact H | exact H.drop | exact H.drop.drop | exact H.drop.drop.drop | exact H.drop.drop.drop.drop | exact H.drop.drop.drop.drop.drop | exact H.drop.drop.drop.drop.drop.drop | exact H.drop.drop.drop.drop.drop.drop.drop | exact H.drop.drop.drop.drop.drop.drop.drop.drop
            refine ⟨hS, ?_⟩
            refine JH.all [6] (by kernel_rfl) (by decide) ?_
            refine JHO.does (listed' := [true, true, true, true, true, true, true, false, false]) rfl rfl trivial (EX.append (ys := s.v) (L' := fun s' => s' :: [(bb, cel s.v 39)] :: [(b14, cel (prgV (oneQ p s) (some ⟨br, 0, none⟩) 1 1) 24)] :: [(br, cel s.v 39)] :: [(b13, cel (prgV p (some ⟨g, 0, none⟩) p.steps.length fc) 24)] :: fs :: [(b30, cel s.v 39)] :: [(b7, cel s.v 39)] :: [(b4, cel (prgV p (some ⟨g, 0, none⟩) p.steps.length fc) 24)] :: F) H elS rfl rfl (i := 0) rfl hq1 (SlAt.cons (SlAt.here (show s.v.take s.v.length = s.v by simp))) rfl (stp_cell _) (by decide) (by omega) (by omega) (fun _ => rfl)) ?_
            rintro _ w ⟨q2, d2, t2, rfl, hq2, H⟩
            replace H := (H.pull 1 rfl).drop
            rw [show stepsV p.steps ++ s.v = stepsV (addS p s).steps by simp [addS, stepsV]] at hq2
            have hS : Hp w0 w (fs :: [(b30, cel s.v 39)] :: [(b7, cel s.v 39)] :: [(b4, cel (prgV p (some ⟨g, 0, none⟩) p.steps.length fc) 24)] :: F) := by first | exact H | exact H.drop | exact H.drop.drop | exact H.drop.drop.drop | exact H.drop.drop.drop.drop | exact H.drop.drop.drop.drop.drop | exact H.drop.drop.drop.drop.drop.drop | exact H.drop.drop.drop.drop.drop.drop.drop | exact H.drop.drop.drop.drop.drop.drop.drop.drop
            refine ⟨hS, ?_⟩
            refine JH.take 7 (listed' := [true, true, true, true, true, true, true, true, false]) rfl (by kernel_rfl) (by kernel_rfl) (by kernel_rfl) rfl trivial (fun w H => RX.fieldAddr rfl fo24_4 rfl) hS ?_
            refine JH.all [8] (by kernel_rfl) (by decide) ?_
            refine JHO.does (listed' := [true, true, true, true, true, true, true, true, true]) rfl rfl trivial (EX.store (v := Value.slice _ _ _) H rfl rfl (i := 3) (l' := prgV (addS p s) q2 (p.steps.length + 1) d2) rfl rfl (by simp [prgV]) sz22 rfl rfl) ?_
            rintro _ w H
            have hS : Hp w0 w (fs :: [(b30, cel s.v 39)] :: [(b7, cel s.v 39)] :: [(b4, cel (prgV p (some ⟨g, 0, none⟩) p.steps.length fc) 24)] :: F) := by first | exact H | exact H.drop | exact H.drop.drop | exact H.drop.drop.drop | exact H.drop.drop.drop.drop | exact H.drop.drop.drop.drop.drop | exact H.drop.drop.drop.drop.drop.drop | exact H.drop.drop.drop.drop.drop.drop.drop | exact H.drop.drop.drop.drop.drop.drop.drop.drop
            refine ⟨hS, ?_⟩
            refine JH.done (by kernel_rfl) ?_
            refine J.seq ?_
            have hqs := hq2.slAt (L := [])
            have hqw : (addS p s).Ow := ⟨hp.len, hp.cells, hp.inn, hp.out, (fun x hx => by
              rcases List.mem_append.1 hx with h | h
              · exact hp.steps x h
              · rw [List.mem_singleton.1 h]; exact hs), (by rw [hal]; omega)⟩
            refine J.region ?_
            refine JL.go trivial (RX.loadAgg H rfl (i := 3) (vs := prgV (addS p s) q2 (addS p s).steps.length d2) rfl (by rw [hal]; rfl) ag24) ?_
            refine JL.does trivial (EX.call rfl cl11 rfl ((Acts_b (p := addS p s) H hT.cons.cons.cons.cons.cons.cons.cons.cons (hE.at_ 9 (by decide) (by decide)).cons.cons.cons.cons.cons.cons.cons.cons (sl_up hqs (by simp)) hqw))) ?_
            rintro _ w ⟨rfl, H⟩
            rw [hcs]
            refine JL.go trivial (RX.movev (v := Value.tuple _) rfl) ?_
            refine JL.go trivial (RX.extract rfl rfl) ?_
            refine JL.go trivial (RX.extract (v := errV E (chkP (oneQ p s))) rfl rfl) ?_
            refine JL.go trivial (RX.assignv (v := Value.int _ _) rfl) ?_
            refine JL.go trivial (RX.assignv (v := errV E (chkP (oneQ p s))) rfl) ?_
            refine JL.nil ?_
            refine J.seq ?_
            refine J.region ?_
            refine JL.go trivial (RX.movev (v := Value.bool _) rfl) ?_
            refine JL.go trivial (RX.loadAgg H rfl (i := 3) (vs := prgV (addS p s) q2 (addS p s).steps.length d2) rfl (by rw [hal]; rfl) ag24) ?_
            refine JL.does trivial (EX.call rfl cl14 rfl ((Check_b (p := addS p s) H hT.cons.cons.cons.cons.cons.cons.cons.cons (hE.at_ 9 (by decide) (by decide)).cons.cons.cons.cons.cons.cons.cons.cons (sl_up hqs (by simp)) hqw))) ?_
            rintro _ w ⟨rfl, H⟩
            rw [hcs]
            refine JL.go trivial (RX.ifnil_eql (v := errV E (chkP (oneQ p s))) rfl rfl hi1.1 if30) ?_
            rw [hi1.2]
            refine JL.go trivial (RX.bool_eql rfl rfl ud4) ?_
            refine JL.go trivial (RX.movev (v := Value.bool _) rfl) ?_
            refine JL.go ⟨_, rfl, (by simp)⟩ (RX.movev (v := Value.bool _) rfl) ?_
            refine JL.go ⟨_, rfl, (by simp)⟩ (RX.not rfl) ?_
            refine JL.go ⟨_, rfl, (by simp)⟩ (RX.movev (v := Value.bool _) rfl) ?_
            refine JL.splitS 165 rfl (fun a9 => ?_) (fun a9 => ?_)
            · skip
              first | have a9p := of_decide_eq_true a9 | skip
              refine JL.no ⟨_, rfl, gno a9⟩ ?_
              refine JL.no ⟨_, rfl, gno a9⟩ ?_
              refine JL.no ⟨_, rfl, gno a9⟩ ?_
              refine JL.no ⟨_, rfl, nofun⟩ ?_
              refine JL.no ⟨_, rfl, nofun⟩ ?_
              refine JL.no ⟨_, rfl, nofun⟩ ?_
              refine JL.no ⟨_, rfl, nofun⟩ ?_
              refine JL.no ⟨_, rfl, nofun⟩ ?_
              refine JL.no ⟨_, rfl, nofun⟩ ?_
              refine JL.no ⟨_, rfl, gno a9⟩ ?_
              refine JL.go ⟨_, rfl, (by simp)⟩ (RX.pick_t rfl a9) ?_
              refine JL.go trivial (RX.pick_t rfl (by simp)) ?_
              refine JL.go trivial (RX.assignv (v := Value.bool _) rfl) ?_
              refine JL.nil ?_
              refine J.ret1 (v := Value.bool _) Tryd.func6 rfl rfl ?_
              first
              | (refine ⟨_, rfl, ?_, H.drop.drop.drop.drop.drop.drop.drop.drop⟩
                 first
                 | rfl
                 | rw [decide_eq_true hact])
              | exact ⟨_, rfl, rfl, H.drop.drop.drop.drop.drop⟩
            · skip
              first | have a9p := of_decide_eq_false a9 | skip
              have hc1 : chkP (oneQ p s) = 0 := by simpa using a9
              have hff := form_facts (oneQ_form hc1)
              have hact := addS_acts hck (hcs.trans hc1)
              refine JL.go ⟨_, rfl, a9⟩ (RX.movev (v := errV E (chkP (oneQ p s))) rfl) ?_
              refine JL.go ⟨_, rfl, a9⟩ (RX.ifnil_eql (v := errV E (chkP (oneQ p s))) rfl rfl hi1.1 if30) ?_
              refine JL.go ⟨_, rfl, a9⟩ (RX.movev (v := Value.bool _) rfl) ?_
              refine JL.go ⟨_, rfl, (by rw [hi1.2, decide_eq_true hc1])⟩ (RX.movev (v := Value.int _ _) rfl) ?_
              refine JL.go ⟨_, rfl, (by rw [hi1.2, decide_eq_true hc1])⟩ (RX.movev (v := Value.int _ _) rfl) ?_
              refine JL.go ⟨_, rfl, (by rw [hi1.2, decide_eq_true hc1])⟩ (RX.fieldAddr rfl fo39_4 rfl) ?_
              refine JL.go ⟨_, rfl, (by rw [hi1.2, decide_eq_true hc1])⟩ (RX.load H rfl (i := 6) (v := .int .i64 s.count) rfl rfl one3) ?_
              refine JL.go ⟨_, rfl, (by rw [hi1.2, decide_eq_true hc1])⟩ (RX.add rfl rfl (w_i64 rfl (by omega) (by omega))) ?_
              refine JL.go ⟨_, rfl, (by rw [hi1.2, decide_eq_true hc1])⟩ (RX.eq rfl rfl) ?_
              refine JL.go ⟨_, rfl, a9⟩ (RX.pick_t rfl (by rw [hi1.2, decide_eq_true hc1])) ?_
              refine JL.go ⟨_, rfl, (by simp)⟩ (RX.pick_f rfl a9) ?_
              refine JL.go trivial (RX.pick_t rfl (by simp)) ?_
              refine JL.go trivial (RX.assignv (v := Value.bool _) rfl) ?_
              refine JL.nil ?_
              refine J.ret1 (v := Value.bool _) Tryd.func6 rfl rfl ?_
              first
              | (refine ⟨_, rfl, ?_, H.drop.drop.drop.drop.drop.drop.drop.drop⟩
                 first
                 | rfl
                 | rw [decide_eq_true hact])
              | exact ⟨_, rfl, rfl, H.drop.drop.drop.drop.drop⟩
        · skip
          first | have g1p := of_decide_eq_false g1 | skip
          have hck : ¬ chkP p = 0 := of_decide_eq_false g1
          have hisn : isNil (errV E (chkP p)) = false := by rw [hie.2, g1]
          refine JL.no ⟨_, rfl, gno g1⟩ ?_
          refine JL.no ⟨_, rfl, gno g1⟩ ?_
          refine JL.no ⟨_, rfl, gno g1⟩ ?_
          refine JL.no ⟨_, rfl, nofun⟩ ?_
          refine JL.no ⟨_, rfl, nofun⟩ ?_
          refine JL.no ⟨_, rfl, gno g1⟩ ?_
          refine JL.go trivial (RX.pick_f rfl g1) ?_
          refine JL.go trivial (RX.movev (v := Value.bool _) rfl) ?_
          refine JL.go ⟨_, rfl, rfl⟩ (RX.movev (v := Value.bool _) rfl) ?_
          refine JL.go ⟨_, rfl, rfl⟩ (RX.not rfl) ?_
          refine JL.go ⟨_, rfl, rfl⟩ (RX.movev (v := Value.bool _) rfl) ?_
          refine JL.go ⟨_, rfl, (by first | (rw [g1]; done) | (rw [g1]; rfl))⟩ (RX.movev (v := errV E (chkP p)) rfl) ?_
          refine JL.go ⟨_, rfl, (by first | (rw [g1]; done) | (rw [g1]; rfl))⟩ (RX.ifnil_eql (v := errV E (chkP p)) rfl rfl hie.1 if30) ?_
          refine JL.go ⟨_, rfl, rfl⟩ (RX.pick_t rfl (by first | (rw [g1]; done) | (rw [g1]; rfl))) ?_
          refine JL.go trivial (RX.pick_f rfl rfl) ?_
          refine JL.nil ?_
          refine J.cond_f rfl hisn ?_
          refine J.skip ?_
          refine J.seq ?_
          refine J.region ?_
          refine JL.go trivial (RX.loadAgg H rfl (i := 3) (vs := prgV p (some ⟨g, 0, none⟩) p.steps.length fc) rfl rfl ag24) ?_
          refine JL.does trivial (EX.alloc H zr24 rfl) ?_
          rintro _ w ⟨b13, rfl, H⟩
          refine JL.does trivial (EX.storeAgg H rfl rfl (i := 0) (vs := prgV p (some ⟨g, 0, none⟩) p.steps.length fc) (l' := prgV p (some ⟨g, 0, none⟩) p.steps.length fc) rfl prgV_cell (by simp [prgV]) sz24 rfl rfl) ?_
          rintro _ w H
          refine JL.nil ?_
          refine J.seq ?_
          refine J.seq ?_
          refine J.region ?_
          refine JL.go trivial (RX.movev (v := Value.int _ _) rfl) ?_
          refine JL.go trivial (RX.ge rfl rfl) ?_
          refine JL.nil ?_
          refine J.cond_d rfl (fun hi => ?_) (fun hi => ?_)
          · skip
            obtain ⟨i, hi2⟩ : ∃ i : Nat, faultP p.steps p.cells = (i : Int) := ⟨(faultP p.steps p.cells).toNat, by omega⟩
            rw [hi2] at hi hfl ⊢
            have hul := upto_len (p := p) (k := i) (by omega)
            refine J.seq ?_
            refine J.region ?_
            refine JL.go trivial (RX.fieldAddr rfl fo24_4 rfl) ?_
            refine JL.go trivial (RX.load H rfl (i := 4) (v := .slice (some ⟨g, 0, none⟩) p.steps.length fc) rfl rfl one22) ?_
            refine JL.go trivial (RX.movev (v := Value.int _ _) rfl) ?_
            refine JL.go trivial (RX.slice_h rfl rfl sl22 (fun a ha => by cases ha; rfl) (by omega) (by have := hof.le; omega) (r := i) rfl) ?_
            refine JL.go trivial (RX.fieldAddr rfl fo24_4 rfl) ?_
            refine JL.does trivial (EX.store (v := Value.slice _ _ _) H rfl rfl (i := 0) (l' := prgV (upto p i) (some ⟨g, 0, none⟩) i fc) rfl rfl (by simp [prgV]) sz22 rfl rfl) ?_
            rintro _ w H
            refine JL.nil ?_
            refine J.seq ?_
            have hsk : SlAt ([(b13, cel (prgV (upto p i) (some ⟨g, 0, none⟩) i fc) 24)] :: fs :: [(b30, cel s.v 39)] :: [(b7, cel s.v 39)] :: [(b4, cel (prgV p (some ⟨g, 0, none⟩) p.steps.length fc) 24)] :: F) (some ⟨g, 0, none⟩) (stepsV (upto p i).steps) := sl_take (SlAt.cons (s := [(b13, cel (prgV (upto p i) (some ⟨g, 0, none⟩) i fc) 24)]) (mine_sl hof ([(b30, cel s.v 39)] :: [(b7, cel s.v 39)] :: [(b4, cel (prgV p (some ⟨g, 0, none⟩) p.steps.length fc) 24)] :: F)))
            refine J.region ?_
            refine JL.go trivial (RX.loadAgg H rfl (i := 0) (vs := prgV (upto p i) (some ⟨g, 0, none⟩) (upto p i).steps.length fc) rfl (by rw [hul]; rfl) ag24) ?_
            refine JL.does trivial (EX.call rfl cl16 rfl ((Fault_b (p := upto p i) H hT.cons.cons.cons.cons.cons (hE.at_ 9 (by decide) (by decide)).cons.cons.cons.cons.cons hsk (hp.upto i)))) ?_
            rintro _ w ⟨rfl, H⟩
            rw [upto_fault (.inr (by omega))]
            refine JL.go trivial (RX.eq rfl rfl) ?_
            refine JL.go trivial (RX.assignv (v := Value.bool _) rfl) ?_
            refine JL.nil ?_
            refine J.ret1 (v := Value.bool _) Tryd.func6 rfl rfl ?_
            first
            | (refine ⟨_, rfl, ?_, H.drop.drop.drop.drop.drop.drop.drop.drop⟩
               first
               | rfl
               | rw [decide_eq_true hact])
            | exact ⟨_, rfl, rfl, H.drop.drop.drop.drop.drop⟩
          · skip
            have hfp : faultP p.steps p.cells = -1 := by omega
            refine J.skip ?_
            refine J.seq ?_
            obtain ⟨K, hK, hK2⟩ : ∃ K : Nat, cut % 18446744073709551616 % ((p.steps.length + 1 : Nat) : Int) = (K : Int) ∧ K ≤ p.steps.length := by
              have h1 := Int.emod_nonneg (cut % 18446744073709551616) (show ((p.steps.length + 1 : Nat) : Int) ≠ 0 by omega)
              have h2 := Int.emod_lt_of_pos (cut % 18446744073709551616) (show (0 : Int) < ((p.steps.length + 1 : Nat) : Int) by omega)
              exact ⟨(cut % 18446744073709551616 % ((p.steps.length + 1 : Nat) : Int)).toNat, by omega, by omega⟩
            have hul := upto_len (p := p) (k := K) hK2
            refine J.held (fun w => Hp w0 w (fs :: [(b30, cel s.v 39)] :: [(b7, cel s.v 39)] :: [(b4, cel (prgV p (some ⟨g, 0, none⟩) p.steps.length fc) 24)] :: F)) hmix fun w hs => ?_
            replace H := H.same hs; clear hs
            have hS : Hp w0 w (fs :: [(b30, cel s.v 39)] :: [(b7, cel s.v 39)] :: [(b4, cel (prgV p (some ⟨g, 0, none⟩) p.steps.length fc) 24)] :: F) := by first | exact H | exact H.drop | exact H.drop.drop | exact H.drop.drop.drop | exact H.drop.drop.drop.drop | exact H.drop.drop.drop.drop.drop | exact H.drop.drop.drop.drop.drop.drop | exact H.drop.drop.drop.drop.drop.drop.drop | exact H.drop.drop.drop.drop.drop.drop.drop.drop
            refine JH.take 0 (listed' := [true, false, false, false, false, false, false, false, false, false, false, false, false, false]) rfl (by kernel_rfl) (by kernel_rfl) (by kernel_rfl) rfl trivial (fun w H => RX.fieldAddr rfl fo24_4 rfl) hS ?_
            refine JH.take 1 (listed' := [true, true, false, false, false, false, false, false, false, false, false, false, false, false]) rfl (by kernel_rfl) (by kernel_rfl) (by kernel_rfl) rfl trivial (fun w H => RX.load H rfl (i := 3) (v := .slice (some ⟨g, 0, none⟩) p.steps.length fc) rfl rfl one22) hS ?_
            refine JH.take 2 (listed' := [true, true, true, false, false, false, false, false, false, false, false, false, false, false]) rfl (by kernel_rfl) (by kernel_rfl) (by kernel_rfl) rfl trivial (fun w H => RX.movev (v := Value.int _ _) rfl) hS ?_
            refine JH.take 3 (listed' := [true, true, true, true, false, false, false, false, false, false, false, false, false, false]) rfl (by kernel_rfl) (by kernel_rfl) (by kernel_rfl) rfl trivial (fun w H => RX.conv rfl (by rw [ki3]; rfl) ki41 (wrap_u64 _)) hS ?_
            refine JH.take 4 (listed' := [true, true, true, true, true, false, false, false, false, false, false, false, false, false]) rfl (by kernel_rfl) (by kernel_rfl) (by kernel_rfl) rfl trivial (fun w H => RX.fieldAddr rfl fo24_4 rfl) hS ?_
            refine JH.take 5 (listed' := [true, true, true, true, true, true, false, false, false, false, false, false, false, false]) rfl (by kernel_rfl) (by kernel_rfl) (by kernel_rfl) rfl trivial (fun w H => RX.load H rfl (i := 3) (v := .slice (some ⟨g, 0, none⟩) p.steps.length fc) rfl rfl one22) hS ?_
            refine JH.take 6 (listed' := [true, true, true, true, true, true, true, false, false, false, false, false, false, false]) rfl (by kernel_rfl) (by kernel_rfl) (by kernel_rfl) rfl trivial (fun w H => RX.len_slice rfl (by rw [sl22]; rfl) rfl) hS ?_
            refine JH.take 7 (listed' := [true, true, true, true, true, true, true, true, false, false, false, false, false, false]) rfl (by kernel_rfl) (by kernel_rfl) (by kernel_rfl) rfl trivial (fun w H => RX.add rfl rfl (w_i64 (r := ((p.steps.length + 1 : Nat) : Int)) (by omega) (by omega) (by omega))) hS ?_
            refine JH.take 8 (listed' := [true, true, true, true, true, true, true, true, true, false, false, false, false, false]) rfl (by kernel_rfl) (by kernel_rfl) (by kernel_rfl) rfl trivial (fun w H => RX.conv rfl (by rw [ki3]; rfl) ki41 (w_u64 (r := ((p.steps.length + 1 : Nat) : Int)) (by omega) (by omega) (by omega))) hS ?_
            refine JH.take 9 (listed' := [true, true, true, true, true, true, true, true, true, true, false, false, false, false]) rfl (by kernel_rfl) (by kernel_rfl) (by kernel_rfl) rfl trivial (fun w H => RX.rem rfl rfl (by omega) (r := (K : Int)) (by rw [Int.tmod_eq_emod_of_nonneg (by omega)]; exact hK)) hS ?_
            refine JH.take 10 (listed' := [true, true, true, true, true, true, true, true, true, true, true, false, false, false]) rfl (by kernel_rfl) (by kernel_rfl) (by kernel_rfl) rfl trivial (fun w H => RX.conv rfl (by rw [ki41]; rfl) ki3 (w_i64 (r := (K : Int)) (by omega) (by omega) (by omega))) hS ?_
            refine JH.take 11 (listed' := [true, true, true, true, true, true, true, true, true, true, true, true, false, false]) rfl (by kernel_rfl) (by kernel_rfl) (by kernel_rfl) rfl trivial (fun w H => RX.slice_h rfl rfl sl22 (fun a ha => by cases ha; rfl) (by omega) (by have := hof.le; omega) (r := K) rfl) hS ?_
            refine JH.take 12 (listed' := [true, true, true, true, true, true, true, true, true, true, true, true, true, false]) rfl (by kernel_rfl) (by kernel_rfl) (by kernel_rfl) rfl trivial (fun w H => RX.fieldAddr rfl fo24_4 rfl) hS ?_
            refine JH.all [13] (by kernel_rfl) (by decide) ?_
            refine JHO.does (listed' := [true, true, true, true, true, true, true, true, true, true, true, true, true, true]) rfl rfl trivial (EX.store (v := Value.slice _ _ _) H rfl rfl (i := 0) (l' := prgV (upto p K) (some ⟨g, 0, none⟩) K fc) rfl rfl (by simp [prgV]) sz22 rfl rfl) ?_
            rintro _ w H
            have hS : Hp w0 w (fs :: [(b30, cel s.v 39)] :: [(b7, cel s.v 39)] :: [(b4, cel (prgV p (some ⟨g, 0, none⟩) p.steps.length fc) 24)] :: F) := by first | exact H | exact H.drop | exact H.drop.drop | exact H.drop.drop.drop | exact H.drop.drop.drop.drop | exact H.drop.drop.drop.drop.drop | exact H.drop.drop.drop.drop.drop.drop | exact H.drop.drop.drop.drop.drop.drop.drop | exact H.drop.drop.drop.drop.drop.drop.drop.drop
            refine ⟨hS, ?_⟩
            refine JH.done (by kernel_rfl) ?_
            refine J.seq ?_
            refine J.seq ?_
            have hsk : SlAt ([(b13, cel (prgV (upto p K) (some ⟨g, 0, none⟩) K fc) 24)] :: fs :: [(b30, cel s.v 39)] :: [(b7, cel s.v 39)] :: [(b4, cel (prgV p (some ⟨g, 0, none⟩) p.steps.length fc) 24)] :: F) (some ⟨g, 0, none⟩) (stepsV (upto p K).steps) := sl_take (SlAt.cons (s := [(b13, cel (prgV (upto p K) (some ⟨g, 0, none⟩) K fc) 24)]) (mine_sl hof ([(b30, cel s.v 39)] :: [(b7, cel s.v 39)] :: [(b4, cel (prgV p (some ⟨g, 0, none⟩) p.steps.length fc) 24)] :: F)))
            refine J.region ?_
            refine JL.go trivial (RX.loadAgg H rfl (i := 0) (vs := prgV (upto p K) (some ⟨g, 0, none⟩) (upto p K).steps.length fc) rfl (by rw [hul]; rfl) ag24) ?_
            refine JL.does trivial (EX.call rfl cl16 rfl ((Fault_b (p := upto p K) H hT.cons.cons.cons.cons.cons (hE.at_ 9 (by decide) (by decide)).cons.cons.cons.cons.cons hsk (hp.upto K)))) ?_
            rintro _ w ⟨rfl, H⟩
            rw [upto_fault (.inl hfp)]
            refine JL.go trivial (RX.ne rfl rfl) ?_
            refine JL.go trivial (RX.movev (v := Value.bool _) rfl) ?_
            refine JL.go ⟨_, rfl, (by decide)⟩ (RX.loadAgg H rfl (i := 0) (vs := prgV (upto p K) (some ⟨g, 0, none⟩) (upto p K).steps.length fc) rfl (by rw [hul]; rfl) ag24) ?_
            refine JL.does ⟨_, rfl, (by decide)⟩ (EX.call rfl cl14 rfl ((Check_b (p := upto p K) H hT.cons.cons.cons.cons.cons (hE.at_ 9 (by decide) (by decide)).cons.cons.cons.cons.cons hsk (hp.upto K)))) ?_
            rintro _ w ⟨rfl, H⟩
            rw [upto_chk hfp]
            refine JL.go ⟨_, rfl, (by decide)⟩ (RX.ifnil_eql (v := errV E (chkP p)) rfl rfl hie.1 if30) ?_
            rw [hie.2]
            refine JL.go ⟨_, rfl, (by decide)⟩ (RX.movev (v := Value.bool _) rfl) ?_
            refine JL.go ⟨_, rfl, (by decide)⟩ (RX.bool_neq rfl rfl ud4) ?_
            refine JL.go trivial (RX.pick_f rfl (by decide)) ?_
            refine JL.nil ?_
            refine J.cond_f rfl (by simp) ?_
            refine J.skip ?_
            refine J.seq ?_
            refine J.seq ?_
            refine J.region ?_
            refine JL.go trivial (RX.movev (v := Value.bool _) rfl) ?_
            refine JL.go trivial (RX.not rfl) ?_
            refine JL.nil ?_
            refine J.cond_t rfl (by first | (rw [g1]; done) | (rw [g1]; rfl)) ?_
            refine J.seq ?_
            refine J.region ?_
            refine JL.go trivial (RX.assign) ?_
            refine JL.nil ?_
            refine J.ret1 (v := Value.bool _) Tryd.func6 rfl rfl ?_
            first
            | (refine ⟨_, rfl, ?_, H.drop.drop.drop.drop.drop.drop.drop.drop⟩
               first
               | rfl
               | rw [decide_eq_true hact])
            | exact ⟨_, rfl, rfl, H.drop.drop.drop.drop.drop⟩
end Go.Proofs.YtafhajgebhicdaaDoor
