/- A listing read by the reference. -/
import Derived.Test.YtgkmmbdlclecnaaDoorRr
namespace Go.Proofs.YtgkmmbdlclecnaaDoor
open Go Go.Eng
set_option maxRecDepth 100000
set_option linter.unusedVariables false
set_option linter.unusedSimpArgs false
theorem cl31 : callable Tryd.prog 31 = true := by kernel_rfl
theorem cl32 : callable Tryd.prog 32 = true := by kernel_rfl
def codeV (n : Nat) : Value := .int .i64 (n : Nat)
theorem last_drop {l : List (List UInt8)} {i : Nat} {x : List UInt8} (h : l[i]? = some x) : l.drop i = x :: l.drop (i + 1) := by
  have hl := (List.getElem?_eq_some_iff.1 h).1
  rw [List.drop_eq_getElem_cons hl, (List.getElem?_eq_some_iff.1 h).2]
theorem drop_ne {l : List (List UInt8)} {i : Nat} (h : i < l.length) : l.drop i ≠ [] := fun e => by
  have := congrArg List.length e
  rw [List.length_drop] at this
  simp at this
  omega
theorem rRead_b {w0 w : World} {F : List Seg} (H : Hp w0 w F) {s : List UInt8} (hs : s.length < 4294967281) : Ret Tryd.prog 15 [.string ⟨s.toArray⟩] w fun v w' => ∃ ps, ReadR codeV (readS s) v ps ∧ Hp w0 w' (ps :: F) := by
  refine Calls.of_J (n := 87) Tryd.func15 rfl rfl rfl ?_
  refine J.seq ?_
  refine J.region ?_
  refine JL.does trivial (EX.alloc H zr24 rfl) ?_
  rintro _ w ⟨b1, rfl, H⟩
  refine JL.go trivial (RX.assign) ?_
  refine JL.go trivial (RX.assign) ?_
  refine JL.nil ?_
  refine J.seq ?_
  refine J.region ?_
  refine JL.go trivial (RX.movev (v := Value.string _) rfl) ?_
  refine JL.does trivial (EX.call rfl cl30 rfl ((rcut_b (b := 10) H hs))) ?_
  rintro _ w ⟨p, cc, sg, rfl, hoc, H⟩
  have hcl := cutL_len 10 s []
  have hct := List.count_le_length (a := (10 : UInt8)) (l := s)
  have hcl2 : (cutL 10 s).length = s.count 10 + 1 := hcl
  obtain ⟨g, gl, rfl, rfl, hcn, _, hgl⟩ := hoc.ptr (by omega)
  refine JL.go trivial (RX.assignv (v := Value.slice _ _ _) rfl) ?_
  refine JL.nil ?_
  refine J.seq ?_
  refine J.region ?_
  refine JL.go trivial (RX.movev (v := Value.slice _ _ _) rfl) ?_
  refine JL.go trivial (RX.len_slice rfl (by rw [sl78]; rfl) rfl) ?_
  refine JL.go trivial (RX.sub rfl rfl (w_i64 rfl (by omega) (by omega))) ?_
  refine JL.go trivial (RX.assignv (v := Value.int _ _) rfl) ?_
  refine JL.nil ?_
  refine J.seq ?_
  refine J.region ?_
  refine JL.go trivial (RX.build (pv := []) (res := prgV prg0 none 0 0) rfl (by kernel_rfl)) ?_
  refine JL.does trivial (EX.alloc H zr24 rfl) ?_
  rintro _ w ⟨b2, rfl, H⟩
  refine JL.does trivial (EX.storeAgg H rfl rfl (i := 0) (vs := prgV prg0 none 0 0) (l' := prgV prg0 none 0 0) rfl prgV_cell (by simp [prgV]) sz24 rfl rfl) ?_
  rintro _ w H
  refine JL.nil ?_
  refine J.seq ?_
  refine J.seq ?_
  refine J.region ?_
  refine JL.go trivial (RX.movev (v := Value.slice _ _ _) rfl) ?_
  refine JL.go trivial (RX.len_slice rfl (by rw [sl78]; rfl) rfl) ?_
  refine JL.go trivial (RX.move) ?_
  refine JL.nil ?_
  refine J.block ?_
  refine J.loop (ι := Nat × Prg × Option Addr × Nat × Seg) (S := fun q => [(23, .int .i64 (q.1 : Nat))]) (Φ := fun q w => q.1 < (cutL 10 s).length ∧ q.2.1.steps.length ≤ q.1 ∧ readS s = resL q.2.1 q.1 ((cutL 10 s).drop q.1) ∧ OwnSl 26 7 q.2.2.1 q.2.1.steps.length q.2.2.2.1 (stepsV q.2.1.steps) q.2.2.2.2 ∧ Hp w0 w ([(b2, cel (prgV q.2.1 q.2.2.1 q.2.1.steps.length q.2.2.2.1) 24)] :: q.2.2.2.2 :: [(g, cel gl 9)] :: [(b1, cel (prgV prg0 none 0 0) 24)] :: F)) (μ := fun q => (cutL 10 s).length - q.1) (C := [(2, _), (6, _), (7, _), (21, _), (22, _)]) (0, prg0, none, 0, []) ⟨rfl, rfl, rfl, rfl, rfl, trivial⟩ ⟨rfl, trivial⟩ ?_ ?_
  · exact ⟨by simp only; omega, by simp [prg0], readS_res _ _, OwnSl.nil, H.nil.pull 1 rfl⟩
  clear H
  rintro ⟨i, q, pp, pc, ps⟩ ρ w ⟨hil, hqi, hres, ho, H⟩ IH
  simp only at hil hqi hres ho H
  dsimp only
  refine J.seq ?_
  refine J.region ?_
  refine JL.go trivial (RX.lt rfl rfl) ?_
  refine JL.nil ?_
  refine J.seq ?_
  refine J.cond_d rfl (fun hlt => ?_) (fun hlt => ?_)
  · skip
    obtain ⟨l, hl⟩ : ∃ l, (cutL 10 s)[i]? = some l := ⟨_, List.getElem?_eq_getElem hil⟩
    have hlL : l.length < 4294967281 := by
      have h1 := cut_len_le (List.mem_of_getElem? hl)
      omega
    rw [last_drop hl] at hres
    refine J.skip ?_
    refine J.seq ?_
    refine J.block ?_
    refine J.seq ?_
    refine J.region ?_
    refine JL.go trivial (RX.movev (v := Value.int _ _) rfl) ?_
    refine JL.go trivial (RX.indexAddr rfl rfl sl78 (by omega) (by omega) (o' := i) (by simp)) ?_
    refine JL.go trivial (RX.loadS H (SlAt.cons (SlAt.cons (SlAt.here (xs := strsV (cutL 10 s)) hgl))) rfl (j := i) (by simp) (v := .string ⟨l.toArray⟩) (strsV_get hl) one9) ?_
    refine JL.go trivial (RX.assignv (v := Value.int _ _) rfl) ?_
    refine JL.go trivial (RX.assignv (v := Value.string _) rfl) ?_
    refine JL.nil ?_
    refine J.seq ?_
    refine J.seq ?_
    refine J.join (ι := Bool) (fun c => [(38, .bool c)]) (fun c w => c = decide (i + 1 = (cutL 10 s).length ∧ l = [] ∧ 0 < i) ∧ Hp w0 w ([(b2, cel (prgV q pp q.steps.length pc) 24)] :: ps :: [(g, cel gl 9)] :: [(b1, cel (prgV prg0 none 0 0) 24)] :: F)) [(2, _), (6, _), (7, _), (8, _), (9, _), (21, _), (22, _), (23, _)] ⟨rfl, rfl, rfl, rfl, rfl, rfl, rfl, rfl, trivial⟩ ?_ ?_
    rotate_left
    · skip
      intro k2 hk2
      refine J.region ?_
      refine JL.go trivial (RX.movev (v := Value.int _ _) rfl) ?_
      refine JL.go trivial (RX.movev (v := Value.int _ _) rfl) ?_
      refine JL.go trivial (RX.eq rfl rfl) ?_
      refine JL.go trivial (RX.movev (v := Value.bool _) rfl) ?_
      refine JL.splitS 31 rfl (fun hla => ?_) (fun hla => ?_)
      · skip
        first | have hlap := of_decide_eq_true hla | skip
        refine JL.go ⟨_, rfl, hla⟩ (RX.movev (v := Value.string _) rfl) ?_
        refine JL.go ⟨_, rfl, hla⟩ (RX.str_eql rfl rfl) ?_
        refine JL.go trivial (RX.pick_t rfl hla) ?_
        refine JL.go trivial (RX.movev (v := Value.bool _) rfl) ?_
        refine JL.splitS 35 rfl (fun hem => ?_) (fun hem => ?_)
        · skip
          first | have hemp := of_decide_eq_true hem | skip
          refine JL.go ⟨_, rfl, hem⟩ (RX.movev (v := Value.int _ _) rfl) ?_
          refine JL.go ⟨_, rfl, hem⟩ (RX.gt rfl rfl) ?_
          refine JL.go trivial (RX.pick_t rfl hem) ?_
          refine JL.nil ?_
          first
          | exact hk2 (decide ((i : Int) > 0)) _ _ ⟨rfl, rfl, rfl, rfl, rfl, rfl, rfl, rfl, trivial⟩ ⟨rfl, trivial⟩ ⟨by congr 1; rw [eq_iff_iff]; exact ⟨fun h => ⟨by omega, ba_inj hemp, by omega⟩, fun h => by omega⟩, H⟩
          | exact hk2 false _ _ ⟨rfl, rfl, rfl, rfl, rfl, rfl, rfl, rfl, trivial⟩ ⟨rfl, trivial⟩ ⟨(decide_eq_false (fun h => hemp (by rw [h.2.1]))).symm, H⟩
          | exact hk2 false _ _ ⟨rfl, rfl, rfl, rfl, rfl, rfl, rfl, rfl, trivial⟩ ⟨rfl, trivial⟩ ⟨(decide_eq_false (fun h => by omega)).symm, H⟩
        · skip
          first | have hemp := of_decide_eq_false hem | skip
          refine JL.no ⟨_, rfl, gno hem⟩ ?_
          refine JL.no ⟨_, rfl, gno hem⟩ ?_
          refine JL.go trivial (RX.pick_f rfl hem) ?_
          refine JL.nil ?_
          first
          | exact hk2 (decide ((i : Int) > 0)) _ _ ⟨rfl, rfl, rfl, rfl, rfl, rfl, rfl, rfl, trivial⟩ ⟨rfl, trivial⟩ ⟨by congr 1; rw [eq_iff_iff]; exact ⟨fun h => ⟨by omega, ba_inj hemp, by omega⟩, fun h => by omega⟩, H⟩
          | exact hk2 false _ _ ⟨rfl, rfl, rfl, rfl, rfl, rfl, rfl, rfl, trivial⟩ ⟨rfl, trivial⟩ ⟨(decide_eq_false (fun h => hemp (by rw [h.2.1]))).symm, H⟩
          | exact hk2 false _ _ ⟨rfl, rfl, rfl, rfl, rfl, rfl, rfl, rfl, trivial⟩ ⟨rfl, trivial⟩ ⟨(decide_eq_false (fun h => by omega)).symm, H⟩
      · skip
        first | have hlap := of_decide_eq_false hla | skip
        refine JL.no ⟨_, rfl, gno hla⟩ ?_
        refine JL.no ⟨_, rfl, gno hla⟩ ?_
        refine JL.go trivial (RX.pick_f rfl hla) ?_
        refine JL.go trivial (RX.movev (v := Value.bool _) rfl) ?_
        refine JL.no ⟨_, rfl, gno rfl⟩ ?_
        refine JL.no ⟨_, rfl, gno rfl⟩ ?_
        refine JL.go trivial (RX.pick_f rfl rfl) ?_
        refine JL.nil ?_
        first
        | exact hk2 (decide ((i : Int) > 0)) _ _ ⟨rfl, rfl, rfl, rfl, rfl, rfl, rfl, rfl, trivial⟩ ⟨rfl, trivial⟩ ⟨by congr 1; rw [eq_iff_iff]; exact ⟨fun h => ⟨by omega, ba_inj hemp, by omega⟩, fun h => by omega⟩, H⟩
        | exact hk2 false _ _ ⟨rfl, rfl, rfl, rfl, rfl, rfl, rfl, rfl, trivial⟩ ⟨rfl, trivial⟩ ⟨(decide_eq_false (fun h => hemp (by rw [h.2.1]))).symm, H⟩
        | exact hk2 false _ _ ⟨rfl, rfl, rfl, rfl, rfl, rfl, rfl, rfl, trivial⟩ ⟨rfl, trivial⟩ ⟨(decide_eq_false (fun h => by omega)).symm, H⟩
    · skip
      clear H
      rintro c ρ w ⟨hc, H⟩
      refine J.cond rfl (fun hgo => ?_) (fun hgo => ?_)
      · skip
        rw [hgo] at hc
        have hri := of_decide_eq_true hc.symm
        obtain ⟨hla1, hl0, hi0⟩ := hri
        subst hl0
        rw [List.drop_eq_nil_of_le (by omega), res_ok (by omega)] at hres
        refine J.seq ?_
        refine J.region ?_
        refine JL.go trivial (RX.loadAgg H rfl (i := 0) (vs := prgV q pp q.steps.length pc) rfl rfl ag24) ?_
        refine JL.does trivial (EX.storeAgg H rfl rfl (i := 3) (vs := prgV q pp q.steps.length pc) (l' := prgV q pp q.steps.length pc) rfl prgV_cell (by simp [prgV]) sz24 rfl rfl) ?_
        rintro _ w H
        refine JL.go trivial (RX.assign) ?_
        refine JL.go trivial (RX.assign) ?_
        refine JL.nil ?_
        first
        | refine J.retctt (x := Value.int _ _) (y := Value.int _ _) Tryd.func15 rfl H rfl (i := 4) (vs := prgV prg0 none 0 0) rfl rfl ag24 rfl rfl ?_
        | refine J.retctt (x := Value.int _ _) (y := Value.int _ _) Tryd.func15 rfl H rfl (i := 3) (vs := prgV q pp q.steps.length pc) rfl rfl ag24 rfl rfl ?_
        first
        | exact ⟨_, rfl, [], ReadR.err (e := codeV) hno, (H.drop.drop.drop.drop.drop).nil⟩
        | (rw [hff]; exact ⟨_, rfl, [], ReadR.err (e := codeV) hno, (H.drop.drop.drop.drop.drop).nil⟩)
        | exact ⟨_, rfl, ps, ReadR.ok (e := codeV) hres ho, ((H.drop.pull 1 rfl).drop.pull 1 rfl).drop⟩
      · skip
        rw [hgo] at hc
        have hri := of_decide_eq_false hc.symm
        refine J.skip ?_
        refine J.seq ?_
        refine J.seq ?_
        refine J.region ?_
        refine JL.go trivial (RX.movev (v := Value.int _ _) rfl) ?_
        refine JL.go trivial (RX.eq rfl rfl) ?_
        refine JL.nil ?_
        refine J.cond_d rfl (fun hi0 => ?_) (fun hi0 => ?_)
        · skip
          obtain rfl : i = 0 := by omega
          refine J.seq ?_
          refine J.region ?_
          refine JL.go trivial (RX.movev (v := Value.string _) rfl) ?_
          refine JL.does trivial (EX.call rfl cl31 rfl ((rhead_b H hlL))) ?_
          rintro _ w ⟨rfl, H⟩
          refine JL.go trivial (RX.movev (v := Value.tuple _) rfl) ?_
          refine JL.go trivial (RX.extract (v := .agg (prgV ((headS l).getD prg0) none 0 0).toArray) rfl rfl) ?_
          refine JL.go trivial (RX.extract (v := .bool (headS l).isSome) rfl rfl) ?_
          refine JL.does trivial (EX.alloc H zr24 rfl) ?_
          rintro _ w ⟨b3, rfl, H⟩
          refine JL.does trivial (EX.storeAgg H rfl rfl (i := 0) (vs := prgV ((headS l).getD prg0) none 0 0) (l' := prgV ((headS l).getD prg0) none 0 0) rfl prgV_cell (by simp [prgV]) sz24 rfl rfl) ?_
          rintro _ w H
          refine JL.go trivial (RX.assignv (v := Value.bool _) rfl) ?_
          refine JL.nil ?_
          refine J.seq ?_
          refine J.seq ?_
          refine J.region ?_
          refine JL.go trivial (RX.movev (v := Value.bool _) rfl) ?_
          refine JL.go trivial (RX.not rfl) ?_
          refine JL.go trivial (RX.movev (v := Value.bool _) rfl) ?_
          refine JL.splitS 49 rfl (fun hok => ?_) (fun hok => ?_)
          · skip
            first | have hokp := of_decide_eq_true hok | skip
            have hno : readS s = .err (0 + 1) 6 := by rw [hres, res_head_no (head_no hok)]
            refine JL.no ⟨_, rfl, gno hok⟩ ?_
            refine JL.no ⟨_, rfl, gno hok⟩ ?_
            refine JL.no ⟨_, rfl, gno hok⟩ ?_
            refine JL.go trivial (RX.pick_t rfl hok) ?_
            refine JL.nil ?_
            refine J.cond_t rfl rfl ?_
            refine J.seq ?_
            refine J.region ?_
            refine JL.go trivial (RX.build (pv := []) (res := prgV prg0 none 0 0) rfl (by kernel_rfl)) ?_
            refine JL.does trivial (EX.storeAgg H rfl rfl (i := 4) (vs := prgV prg0 none 0 0) (l' := prgV prg0 none 0 0) rfl prgV_cell (by simp [prgV]) sz24 rfl rfl) ?_
            rintro _ w H
            refine JL.go trivial (RX.assign) ?_
            refine JL.go trivial (RX.assign) ?_
            refine JL.nil ?_
            first
            | refine J.retctt (x := Value.int _ _) (y := Value.int _ _) Tryd.func15 rfl H rfl (i := 4) (vs := prgV prg0 none 0 0) rfl rfl ag24 rfl rfl ?_
            | refine J.retctt (x := Value.int _ _) (y := Value.int _ _) Tryd.func15 rfl H rfl (i := 3) (vs := prgV q pp q.steps.length pc) rfl rfl ag24 rfl rfl ?_
            first
            | exact ⟨_, rfl, [], ReadR.err (e := codeV) hno, (H.drop.drop.drop.drop.drop).nil⟩
            | (rw [hff]; exact ⟨_, rfl, [], ReadR.err (e := codeV) hno, (H.drop.drop.drop.drop.drop).nil⟩)
            | exact ⟨_, rfl, ps, ReadR.ok (e := codeV) hres ho, ((H.drop.pull 1 rfl).drop.pull 1 rfl).drop⟩
          · skip
            first | have hokp := of_decide_eq_false hok | skip
            obtain ⟨p1, hp1⟩ := head_yes hok
            have hps := head_steps hp1
            refine JL.go ⟨_, rfl, hok⟩ (RX.movev (v := Value.int _ _) rfl) ?_
            refine JL.go ⟨_, rfl, hok⟩ (RX.movev (v := Value.int _ _) rfl) ?_
            refine JL.go ⟨_, rfl, hok⟩ (RX.eq rfl rfl) ?_
            refine JL.go trivial (RX.pick_f rfl hok) ?_
            refine JL.nil ?_
            refine J.cond_d rfl (fun hla => ?_) (fun hla => ?_)
            · skip
              first
              | (have hno2 := hno)
              | (have hno : readS s = .err (0 + 1) 6 := by rw [hres, List.drop_eq_nil_of_le (by omega), res_one (.inr rfl)])
              refine J.seq ?_
              refine J.region ?_
              refine JL.go trivial (RX.build (pv := []) (res := prgV prg0 none 0 0) rfl (by kernel_rfl)) ?_
              refine JL.does trivial (EX.storeAgg H rfl rfl (i := 4) (vs := prgV prg0 none 0 0) (l' := prgV prg0 none 0 0) rfl prgV_cell (by simp [prgV]) sz24 rfl rfl) ?_
              rintro _ w H
              refine JL.go trivial (RX.assign) ?_
              refine JL.go trivial (RX.assign) ?_
              refine JL.nil ?_
              first
              | refine J.retctt (x := Value.int _ _) (y := Value.int _ _) Tryd.func15 rfl H rfl (i := 4) (vs := prgV prg0 none 0 0) rfl rfl ag24 rfl rfl ?_
              | refine J.retctt (x := Value.int _ _) (y := Value.int _ _) Tryd.func15 rfl H rfl (i := 3) (vs := prgV q pp q.steps.length pc) rfl rfl ag24 rfl rfl ?_
              first
              | exact ⟨_, rfl, [], ReadR.err (e := codeV) hno, (H.drop.drop.drop.drop.drop).nil⟩
              | (rw [hff]; exact ⟨_, rfl, [], ReadR.err (e := codeV) hno, (H.drop.drop.drop.drop.drop).nil⟩)
              | exact ⟨_, rfl, ps, ReadR.ok (e := codeV) hres ho, ((H.drop.pull 1 rfl).drop.pull 1 rfl).drop⟩
            · skip
              rw [res_head hp1 (drop_ne (by omega))] at hres
              refine J.skip ?_
              refine J.seq ?_
              refine J.region ?_
              refine JL.go trivial (RX.loadAgg H rfl (i := 0) (vs := prgV ((headS l).getD prg0) none 0 0) rfl rfl ag24) ?_
              refine JL.does trivial (EX.storeAgg H rfl rfl (i := 1) (vs := prgV ((headS l).getD prg0) none 0 0) (l' := prgV ((headS l).getD prg0) none 0 0) rfl prgV_cell (by simp [prgV]) sz24 rfl rfl) ?_
              rintro _ w H
              refine JL.nil ?_
              refine J.exit rfl ?_
              refine J.region ?_
              refine JL.go trivial (RX.add rfl rfl (w_i64 (r := ((0 + 1 : Nat) : Int)) (by omega) (by omega) (by omega))) ?_
              refine JL.go trivial (RX.movev (v := Value.int _ _) rfl) ?_
              refine JL.nil ?_
              rw [hp1] at H
              exact IH (0 + 1, p1, none, 0, []) _ _ (by simp only; omega) ⟨rfl, rfl, rfl, rfl, rfl, trivial⟩ ⟨rfl, trivial⟩ ⟨by simp only; omega, by simp only [hps]; simp, hres, by simp only [hps]; exact OwnSl.nil, by simp only [hps]; exact (H.drop.pull 1 rfl).drop.nil.pull 1 rfl⟩
        · skip
          have hi1 : i ≠ 0 := by omega
          refine J.skip ?_
          refine J.seq ?_
          refine J.region ?_
          refine JL.go trivial (RX.movev (v := Value.string _) rfl) ?_
          refine JL.does trivial (EX.call rfl cl32 rfl ((rstep_b H hlL))) ?_
          rintro _ w ⟨⟨x, rfl, hxok, hxs⟩, H⟩
          refine JL.go trivial (RX.movev (v := Value.tuple _) rfl) ?_
          refine JL.go trivial (RX.extract (v := .agg x.v.toArray) rfl rfl) ?_
          refine JL.go trivial (RX.extract (v := .bool (stepS l).isSome) rfl rfl) ?_
          refine JL.does trivial (EX.alloc H zr26 rfl) ?_
          rintro _ w ⟨b3, rfl, H⟩
          refine JL.does trivial (EX.storeAgg H rfl rfl (i := 0) (vs := x.v) (l' := x.v) rfl (stp_cell _) (by simp [Stp.v]) sz26 rfl rfl) ?_
          rintro _ w H
          refine JL.go trivial (RX.assignv (v := Value.bool _) rfl) ?_
          refine JL.nil ?_
          refine J.seq ?_
          refine J.seq ?_
          refine J.region ?_
          refine JL.go trivial (RX.movev (v := Value.bool _) rfl) ?_
          refine JL.go trivial (RX.not rfl) ?_
          refine JL.go trivial (RX.movev (v := Value.bool _) rfl) ?_
          refine JL.splitS 63 rfl (fun hok => ?_) (fun hok => ?_)
          · skip
            first | have hokp := of_decide_eq_true hok | skip
            have hno : readS s = .err (i + 1) 6 := by
              by_cases hla : i + 1 = (cutL 10 s).length
              · rw [hres, List.drop_eq_nil_of_le (by omega), res_one (Or.inl (fun e => hri ⟨hla, e, by omega⟩))]
              · rw [hres, res_step_no hi1 (step_no hok) (drop_ne (by omega))]
            refine JL.no ⟨_, rfl, gno hok⟩ ?_
            refine JL.no ⟨_, rfl, gno hok⟩ ?_
            refine JL.no ⟨_, rfl, gno hok⟩ ?_
            refine JL.go trivial (RX.pick_t rfl hok) ?_
            refine JL.nil ?_
            refine J.cond_t rfl rfl ?_
            refine J.seq ?_
            refine J.region ?_
            refine JL.go trivial (RX.build (pv := []) (res := prgV prg0 none 0 0) rfl (by kernel_rfl)) ?_
            refine JL.go trivial (RX.movev (v := Value.int _ _) rfl) ?_
            refine JL.go trivial (RX.add rfl rfl (w_i64 (r := ((i + 1 : Nat) : Int)) (by omega) (by omega) (by omega))) ?_
            refine JL.does trivial (EX.storeAgg H rfl rfl (i := 4) (vs := prgV prg0 none 0 0) (l' := prgV prg0 none 0 0) rfl prgV_cell (by simp [prgV]) sz24 rfl rfl) ?_
            rintro _ w H
            refine JL.go trivial (RX.assignv (v := Value.int _ _) rfl) ?_
            refine JL.go trivial (RX.assign) ?_
            refine JL.nil ?_
            first
            | refine J.retctt (x := Value.int _ _) (y := Value.int _ _) Tryd.func15 rfl H rfl (i := 4) (vs := prgV prg0 none 0 0) rfl rfl ag24 rfl rfl ?_
            | refine J.retctt (x := Value.int _ _) (y := Value.int _ _) Tryd.func15 rfl H rfl (i := 3) (vs := prgV q pp q.steps.length pc) rfl rfl ag24 rfl rfl ?_
            first
            | exact ⟨_, rfl, [], ReadR.err (e := codeV) hno, (H.drop.drop.drop.drop.drop).nil⟩
            | (rw [hff]; exact ⟨_, rfl, [], ReadR.err (e := codeV) hno, (H.drop.drop.drop.drop.drop).nil⟩)
            | exact ⟨_, rfl, ps, ReadR.ok (e := codeV) hres ho, ((H.drop.pull 1 rfl).drop.pull 1 rfl).drop⟩
          · skip
            first | have hokp := of_decide_eq_false hok | skip
            obtain ⟨x2, hx2⟩ := step_yes hok
            obtain rfl := hxs x2 hx2
            refine JL.go ⟨_, rfl, hok⟩ (RX.movev (v := Value.int _ _) rfl) ?_
            refine JL.go ⟨_, rfl, hok⟩ (RX.movev (v := Value.int _ _) rfl) ?_
            refine JL.go ⟨_, rfl, hok⟩ (RX.eq rfl rfl) ?_
            refine JL.go trivial (RX.pick_f rfl hok) ?_
            refine JL.nil ?_
            refine J.cond_d rfl (fun hla => ?_) (fun hla => ?_)
            · skip
              first
              | (have hno2 := hno)
              | (have hno : readS s = .err (i + 1) 6 := by rw [hres, List.drop_eq_nil_of_le (by omega), res_one (Or.inl (fun e => hri ⟨by omega, e, by omega⟩))])
              refine J.seq ?_
              refine J.region ?_
              refine JL.go trivial (RX.build (pv := []) (res := prgV prg0 none 0 0) rfl (by kernel_rfl)) ?_
              refine JL.go trivial (RX.movev (v := Value.int _ _) rfl) ?_
              refine JL.go trivial (RX.add rfl rfl (w_i64 (r := ((i + 1 : Nat) : Int)) (by omega) (by omega) (by omega))) ?_
              refine JL.does trivial (EX.storeAgg H rfl rfl (i := 4) (vs := prgV prg0 none 0 0) (l' := prgV prg0 none 0 0) rfl prgV_cell (by simp [prgV]) sz24 rfl rfl) ?_
              rintro _ w H
              refine JL.go trivial (RX.assignv (v := Value.int _ _) rfl) ?_
              refine JL.go trivial (RX.assign) ?_
              refine JL.nil ?_
              first
              | refine J.retctt (x := Value.int _ _) (y := Value.int _ _) Tryd.func15 rfl H rfl (i := 4) (vs := prgV prg0 none 0 0) rfl rfl ag24 rfl rfl ?_
              | refine J.retctt (x := Value.int _ _) (y := Value.int _ _) Tryd.func15 rfl H rfl (i := 3) (vs := prgV q pp q.steps.length pc) rfl rfl ag24 rfl rfl ?_
              first
              | exact ⟨_, rfl, [], ReadR.err (e := codeV) hno, (H.drop.drop.drop.drop.drop).nil⟩
              | (rw [hff]; exact ⟨_, rfl, [], ReadR.err (e := codeV) hno, (H.drop.drop.drop.drop.drop).nil⟩)
              | exact ⟨_, rfl, ps, ReadR.ok (e := codeV) hres ho, ((H.drop.pull 1 rfl).drop.pull 1 rfl).drop⟩
            · skip
              refine J.skip ?_
              refine J.seq ?_
              refine J.region ?_
              refine JL.go trivial (RX.loadAgg H rfl (i := 0) (vs := x.v) rfl rfl ag26) ?_
              refine JL.does trivial (EX.call rfl cl20 rfl ((rform_b H hxok))) ?_
              rintro _ w ⟨rfl, H⟩
              refine JL.go trivial (RX.assignv (v := Value.int _ _) rfl) ?_
              refine JL.nil ?_
              refine J.seq ?_
              refine J.seq ?_
              refine J.region ?_
              refine JL.go trivial (RX.movev (v := Value.int _ _) rfl) ?_
              refine JL.go trivial (RX.ne rfl rfl) ?_
              refine JL.nil ?_
              refine J.cond_d rfl (fun hfm => ?_) (fun hfm => ?_)
              · skip
                have hff : formB x = false := f_no hfm
                have hno : readS s = .err (i + 1) 9 := by rw [hres, res_form_no hi1 hx2 hff (drop_ne (by omega))]
                refine J.seq ?_
                refine J.region ?_
                refine JL.go trivial (RX.build (pv := []) (res := prgV prg0 none 0 0) rfl (by kernel_rfl)) ?_
                refine JL.go trivial (RX.movev (v := Value.int _ _) rfl) ?_
                refine JL.go trivial (RX.add rfl rfl (w_i64 (r := ((i + 1 : Nat) : Int)) (by omega) (by omega) (by omega))) ?_
                refine JL.go trivial (RX.movev (v := Value.int _ _) rfl) ?_
                refine JL.does trivial (EX.storeAgg H rfl rfl (i := 4) (vs := prgV prg0 none 0 0) (l' := prgV prg0 none 0 0) rfl prgV_cell (by simp [prgV]) sz24 rfl rfl) ?_
                rintro _ w H
                refine JL.go trivial (RX.assignv (v := Value.int _ _) rfl) ?_
                refine JL.go trivial (RX.assignv (v := Value.int _ _) rfl) ?_
                refine JL.nil ?_
                first
                | refine J.retctt (x := Value.int _ _) (y := Value.int _ _) Tryd.func15 rfl H rfl (i := 4) (vs := prgV prg0 none 0 0) rfl rfl ag24 rfl rfl ?_
                | refine J.retctt (x := Value.int _ _) (y := Value.int _ _) Tryd.func15 rfl H rfl (i := 3) (vs := prgV q pp q.steps.length pc) rfl rfl ag24 rfl rfl ?_
                first
                | exact ⟨_, rfl, [], ReadR.err (e := codeV) hno, (H.drop.drop.drop.drop.drop).nil⟩
                | (rw [hff]; exact ⟨_, rfl, [], ReadR.err (e := codeV) hno, (H.drop.drop.drop.drop.drop).nil⟩)
                | exact ⟨_, rfl, ps, ReadR.ok (e := codeV) hres ho, ((H.drop.pull 1 rfl).drop.pull 1 rfl).drop⟩
              · skip
                have hff : formB x = true := f_yes hfm
                rw [res_step hi1 hx2 hff (drop_ne (by omega))] at hres
                refine J.skip ?_
                refine J.region ?_
                refine JL.go trivial (RX.fieldAddr rfl fo24_4 rfl) ?_
                refine JL.go trivial (RX.load H rfl (i := 1) (v := .slice pp q.steps.length pc) rfl rfl one22) ?_
                refine JL.go trivial (RX.loadAgg H rfl (i := 0) (vs := x.v) rfl rfl ag26) ?_
                refine JL.does trivial (EX.buildSlice (pv := [(0, .agg x.v.toArray)]) (l := x.v) (e := 26) H rfl (by kernel_rfl)) ?_
                rintro _ w ⟨bb, rfl, H⟩
                refine JL.does trivial (EX.append (ys := x.v) (L' := fun s' => [(bb, cel x.v 26)] :: [(b3, cel x.v 26)] :: [(b2, cel (prgV q pp q.steps.length pc) 24)] :: s' :: [(g, cel gl 9)] :: [(b1, cel (prgV prg0 none 0 0) 24)] :: F) H elS rfl rfl (i := 3) rfl ho (SlAt.here (by simp [Stp.v])) rfl (stp_cell _) (by decide) (by omega) (by omega) (fun _ => rfl)) ?_
                rintro _ w ⟨pp2, pc2, ps2, rfl, ho2, H⟩
                replace H := H.drop.drop
                refine JL.go trivial (RX.fieldAddr rfl fo24_4 rfl) ?_
                refine JL.does trivial (EX.store (v := Value.slice _ _ _) H rfl rfl (i := 0) (l' := prgV { q with steps := q.steps ++ [x] } pp2 (q.steps.length + 1) pc2) rfl rfl (by simp [prgV]) sz22 rfl rfl) ?_
                rintro _ w H
                refine JL.nil ?_
                have hql : q.steps.length + 1 = (q.steps ++ [x]).length := by simp
                rw [hql] at H ho2
                rw [show stepsV q.steps ++ x.v = stepsV (q.steps ++ [x]) by rw [stepsV_app]; simp [stepsV]] at ho2
                refine J.inBlock ?_
                refine J.region ?_
                refine JL.go trivial (RX.add rfl rfl (w_i64 (r := ((i + 1 : Nat) : Int)) (by omega) (by omega) (by omega))) ?_
                refine JL.go trivial (RX.movev (v := Value.int _ _) rfl) ?_
                refine JL.nil ?_
                exact IH (i + 1, { q with steps := q.steps ++ [x] }, pp2, pc2, ps2) _ _ (by simp only; omega) ⟨rfl, rfl, rfl, rfl, rfl, trivial⟩ ⟨rfl, trivial⟩ ⟨by simp only; omega, by simp; omega, hres, ho2, H⟩
  · skip
    exfalso
    omega
end Go.Proofs.YtgkmmbdlclecnaaDoor
