/- A step read. -/
import Derived.Test.YtgkmmbdlclecnaaDoorHd
namespace Go.Proofs.YtgkmmbdlclecnaaDoor
open Go Go.Eng
set_option maxRecDepth 100000
set_option linter.unusedVariables false
set_option linter.unusedSimpArgs false
theorem ar95 : arrayOf Tryd.prog 95 = some (6, 3, 1) := by kernel_rfl
theorem cl49 : callable Tryd.prog 49 = true := by kernel_rfl
theorem cl51 : callable Tryd.prog 51 = true := by kernel_rfl
theorem sz95 : szOf Tryd.prog 95 = some 6 := by kernel_rfl
theorem zr95 : (Tryd.prog.info? 95).bind (·.zero) = some (.agg #[.int .i64 0, .int .i64 0, .int .i64 0, .int .i64 0, .int .i64 0, .int .i64 0]) := by kernel_rfl

def zst : Stp := ⟨0, 0, 0, 0, 0, 0, 0⟩
theorem zst_ok : zst.Ok := by constructor <;> decide
def StepR (s : List UInt8) (v : Value) : Prop := ∃ x : Stp, v = .tuple #[.agg x.v.toArray, .bool (stepS s).isSome] ∧ x.Ok ∧ ∀ y, stepS s = some y → x = y
theorem StepR.none {s : List UInt8} (h : stepS s = Option.none) : StepR s (.tuple #[.agg zst.v.toArray, .bool false]) := ⟨zst, by rw [h]; rfl, zst_ok, fun y hy => by rw [h] at hy; cases hy⟩
theorem stpOf_v {op : Int} {l : List Int} (h : l.length = 6) : (stpOf op l).v = .int .i64 op :: intsV l := by
  match l, h with
  | [a, b, c, d, e, f], _ => rfl
theorem stp_set {op m : Int} {x : List Int} (h : x.length < 6) : ((stpOf op (zpad 6 x)).v).set (1 + x.length) (.int .i64 m) = (stpOf op (zpad 6 (x ++ [m]))).v := by
  rw [stpOf_v (zpad_len (by omega)), stpOf_v (zpad_len (by simp; omega)), Nat.add_comm, List.set_cons_succ, zpad_set h]
theorem zpad_full {x : List Int} (h : x.length = 6) : zpad 6 x = x := by unfold zpad; rw [h]; simp
theorem zpad_ok {n : Nat} {x : List Int} (h : ∀ m ∈ x, i64ok m) : ∀ m ∈ zpad n x, i64ok m := by
  intro m hm
  rcases List.mem_append.1 hm with h1 | h1
  · exact h m h1
  · rw [List.mem_replicate] at h1
    rw [h1.2]; exact ⟨by decide, by decide⟩
theorem snoc_ok {x : List Int} {m : Int} (h : ∀ n ∈ x, i64ok n) (hm : i64ok m) : ∀ n ∈ x ++ [m], i64ok n := fun n hn => by
  rcases List.mem_append.1 hn with h1 | h1
  · exact h n h1
  · rw [List.mem_singleton.1 h1]; exact hm
theorem letters_at {k : Nat} (h : k < 6) : ((⟨#[100, 115, 106, 99, 110, 107]⟩ : ByteArray).data.toList)[k]? = some (letters.getD k 0) := by
  have h : k = 0 ∨ k = 1 ∨ k = 2 ∨ k = 3 ∨ k = 4 ∨ k = 5 := by omega
  rcases h with rfl | rfl | rfl | rfl | rfl | rfl <;> rfl
theorem some_no {s : List UInt8} (hno : (!(numS s).isSome) = true) : numS s = none := by
  cases h : numS s with
  | none => rfl
  | some n => rw [h] at hno; cases hno
theorem some_yes {s : List UInt8} (hno : (!(numS s).isSome) = false) : ∃ n, numS s = some n := by
  cases h : numS s with
  | none => rw [h] at hno; exact absurd hno (by decide)
  | some n => exact ⟨n, rfl⟩
theorem op_no {s : List UInt8} (hno : (!(opS s).isSome) = true) : opS s = none := by
  cases h : opS s with
  | none => rfl
  | some n => rw [h] at hno; cases hno
theorem op_yes {s : List UInt8} (hno : (!(opS s).isSome) = false) : ∃ n, opS s = some n := by
  cases h : opS s with
  | none => rw [h] at hno; exact absurd hno (by decide)
  | some n => exact ⟨n, rfl⟩

theorem step_b {w0 w : World} {F : List Seg} (H : Hp w0 w F) (ht : GTab F) (hg : RdG F) (hT : SlAt F (some ⟨19, 0, none⟩) tableC) {s : List UInt8} (hs : s.length < 4294967281) : Ret Tryd.prog 29 [.string ⟨s.toArray⟩] w fun v w' => StepR s v ∧ Hp w0 w' F := by
  refine Calls.of_J (n := 77) Tryd.func29 rfl rfl rfl ?_
  refine J.seq ?_
  refine J.region ?_
  refine JL.does trivial (EX.alloc H zr26 rfl) ?_
  rintro _ w ⟨b1, rfl, H⟩
  refine JL.go trivial (RX.assign) ?_
  refine JL.nil ?_
  refine J.seq ?_
  refine J.region ?_
  refine JL.go trivial (RX.movev (v := Value.string _) rfl) ?_
  refine JL.does trivial (EX.call rfl cl47 rfl ((split_b H hg.cons hs))) ?_
  rintro _ w ⟨g, rfl, H⟩
  obtain ⟨u0, us, hws⟩ : ∃ u0 us, cutL 32 s = u0 :: us := List.exists_cons_of_ne_nil (cutA_ne 32 s [])
  have hsd := stepS_eq hws
  have hlw : (cutL 32 s).length = us.length + 1 := by rw [hws]; rfl
  have husl : us.length ≤ s.length := by
    have h1 := cutL_len 32 s []
    have h2 := List.count_le_length (a := (32 : UInt8)) (l := s)
    unfold cutL at hlw
    omega
  have hul : ∀ u ∈ us, u.length < 4294967281 := fun u hu => by
    have h1 := cut_len_le (b := 32) (s := s) (l := u) (by rw [hws]; exact List.mem_cons_of_mem _ hu)
    omega
  rw [hws] at H
  rw [hlw]
  refine JL.go trivial (RX.assignv (v := Value.slice _ _ _) rfl) ?_
  refine JL.nil ?_
  refine J.seq ?_
  refine J.region ?_
  refine JL.go trivial (RX.movev (v := Value.slice _ _ _) rfl) ?_
  refine JL.go trivial (RX.indexAddr rfl rfl sl78 (by omega) (by omega) rfl) ?_
  refine JL.go trivial (RX.loadS H (SlAt.here (xs := strsV (u0 :: us)) List.take_length) rfl (j := 0) rfl (v := .string ⟨u0.toArray⟩) rfl one9) ?_
  refine JL.does trivial (EX.call rfl cl49 rfl ((Op_b H hT.cons.cons))) ?_
  rintro v w ⟨hv, H⟩
  obtain rfl := op_val hv
  refine JL.go trivial (RX.movev (v := Value.tuple _) rfl) ?_
  refine JL.go trivial (RX.extract (v := .int .i64 ((opS u0).getD 0)) rfl rfl) ?_
  refine JL.go trivial (RX.extract (v := .bool (opS u0).isSome) rfl rfl) ?_
  refine JL.go trivial (RX.assignv (v := Value.int _ _) rfl) ?_
  refine JL.go trivial (RX.assignv (v := Value.bool _) rfl) ?_
  refine JL.nil ?_
  refine J.seq ?_
  refine J.seq ?_
  refine J.region ?_
  refine JL.go trivial (RX.movev (v := Value.bool _) rfl) ?_
  refine JL.go trivial (RX.not rfl) ?_
  refine JL.nil ?_
  refine J.cond rfl (fun hno0 => ?_) (fun hno0 => ?_)
  · skip
    rw [op_no hno0] at hsd
    refine J.seq ?_
    refine J.region ?_
    refine JL.go trivial (RX.build (pv := []) (res := zst.v) rfl (by kernel_rfl)) ?_
    refine JL.does trivial (EX.storeAgg H rfl rfl (i := 1) (vs := zst.v) (l' := zst.v) rfl (stp_cell _) (by simp [Stp.v]) sz26 rfl rfl) ?_
    rintro _ w H
    refine JL.go trivial (RX.assign) ?_
    refine JL.nil ?_
    first | refine J.retct (x := Value.bool _) Tryd.func29 rfl H rfl (i := 0) rfl rfl ag26 rfl ?_ | refine J.retct (x := Value.bool _) Tryd.func29 rfl H rfl (i := 1) rfl rfl ag26 rfl ?_ | refine J.retct (x := Value.bool _) Tryd.func29 rfl H rfl (i := 2) rfl rfl ag26 rfl ?_ | refine J.retct (x := Value.bool _) Tryd.func29 rfl H rfl (i := 3) rfl rfl ag26 rfl ?_ | refine J.retct (x := Value.bool _) Tryd.func29 rfl H rfl (i := 4) rfl rfl ag26 rfl ?_
    exact ⟨_, rfl, StepR.none hsd, H.drop.drop⟩
  · skip
    obtain ⟨op, hop⟩ := op_yes hno0
    rw [hop] at hsd
    simp only at hsd
    have hopk := opS_ok hop
    rw [hop]
    refine J.skip ?_
    refine J.seq ?_
    refine J.region ?_
    refine JL.go trivial (RX.movev (v := Value.int _ _) rfl) ?_
    refine JL.go trivial (RX.build (pv := [(0, .int .i64 op)]) (res := (stpOf op (zpad 6 [])).v) rfl (by kernel_rfl)) ?_
    refine JL.does trivial (EX.alloc H zr26 rfl) ?_
    rintro _ w ⟨b7, rfl, H⟩
    refine JL.does trivial (EX.storeAgg H rfl rfl (i := 0) (vs := (stpOf op (zpad 6 [])).v) (l' := (stpOf op (zpad 6 [])).v) rfl (stp_cell _) (by simp [Stp.v]) sz26 rfl rfl) ?_
    rintro _ w H
    refine JL.nil ?_
    refine J.seq ?_
    refine J.region ?_
    refine JL.go trivial (RX.movev (v := Value.slice _ _ _) rfl) ?_
    refine JL.go trivial (RX.slice_l rfl rfl sl78 (fun a ha => by cases ha; rfl) (by omega) (by omega) (r := 1) rfl) ?_
    refine JL.go trivial (RX.assignv (v := Value.slice _ _ _) rfl) ?_
    refine JL.nil ?_
    obtain ⟨p0, hp0⟩ : ∃ p0, p0 = behind (some ⟨g, 0, none⟩) (us.length + 1) 1 1 := ⟨_, rfl⟩
    rw [← hp0]
    have hps0 : ∀ L, SlAt ([(g, cel (strsV (u0 :: us)) 9)] :: L) p0 (strsV us) := fun L => by
      have h := SlAt.behind (cap := (us.length + 1)) (r := 1) (sz := 1) (show SlAt ([(g, cel (strsV (u0 :: us)) 9)] :: L) (some ⟨g, 0, none⟩) (strsV (u0 :: us)) from (SlAt.here (xs := strsV (u0 :: us)) List.take_length)) (by rw [strsV_len, List.length_cons]; omega)
      rw [← hp0] at h
      exact h
    have hsp0 : ∀ a, p0 = some a → a.spot = none := by
      rw [hp0]; exact behind_spot (fun a ha => by cases ha; rfl)
    refine J.seq ?_
    refine J.seq ?_
    refine J.region ?_
    refine JL.does trivial (EX.call rfl cl25 rfl ((fields_b H))) ?_
    rintro _ w ⟨rfl, H⟩
    refine JL.go trivial (RX.move) ?_
    refine JL.nil ?_
    refine J.block ?_
    refine J.loop (ι := Nat × List Int × Option Addr) (S := fun q => [(29, .int .i64 (q.2.1.length : Nat)), (4, .slice q.2.2 (us.length - q.1) (us.length - q.1))]) (Φ := fun q w => q.2.1.length ≤ 6 ∧ (∀ n ∈ q.2.1, i64ok n) ∧ q.1 ≤ us.length ∧ fillS letters us = restS q.2.1 (us.drop q.1) ∧ (∀ L, SlAt ([(g, cel (strsV (u0 :: us)) 9)] :: L) q.2.2 (strsV (us.drop q.1))) ∧ (∀ a, q.2.2 = some a → a.spot = none) ∧ Hp w0 w ([(b7, cel (stpOf op (zpad 6 q.2.1)).v 26)] :: [(g, cel (strsV (u0 :: us)) 9)] :: [(b1, cel zst.v 26)] :: F)) (μ := fun q => 6 - q.2.1.length) (C := [(2, _), (7, _), (28, _)]) (0, [], p0) ⟨rfl, rfl, rfl, trivial⟩ ⟨rfl, rfl, trivial⟩ ?_ ?_
    · exact ⟨by simp, by simp, by simp, by simp only [List.drop_zero, rest_nil], by simpa using hps0, hsp0, H⟩
    clear H
    rintro ⟨j, x, p⟩ ρ w ⟨hx, hxo, hj, hfill, hsl, hsp, H⟩ IH
    simp only at hx hxo hj hfill hsl hsp H
    dsimp only
    refine J.seq ?_
    refine J.region ?_
    refine JL.go trivial (RX.lt rfl rfl) ?_
    refine JL.nil ?_
    refine J.seq ?_
    refine J.cond_d rfl (fun hlt => ?_) (fun hlt => ?_)
    · skip
      have hx6 : x.length < 6 := by omega
      refine J.skip ?_
      refine J.seq ?_
      refine J.block ?_
      refine J.seq ?_
      refine J.region ?_
      refine JL.go trivial (RX.indexAgg (vs := fieldsV) (us := fieldV x.length) rfl rfl ar67 ag66 (by omega) (by omega) (fields_read hx6)) ?_
      refine JL.does trivial (EX.alloc H zr66 rfl) ?_
      rintro _ w ⟨b9, rfl, H⟩
      refine JL.does trivial (EX.storeAgg H rfl rfl (i := 0) (vs := fieldV x.length) (l' := fieldV x.length) rfl (field_cell _) (by simp [fieldV]) sz66 rfl rfl) ?_
      rintro _ w H
      refine JL.nil ?_
      refine J.seq ?_
      refine J.seq ?_
      refine J.quietH H hmix (by kernel_rfl) ?_
      refine JQ.go trivial (fun w H => RX.movev (v := Value.slice _ _ _) rfl) ?_
      refine JQ.go trivial (fun w H => RX.len_slice rfl (by rw [sl78]; rfl) rfl) ?_
      refine JQ.go trivial (fun w H => RX.eq rfl rfl) ?_
      refine JQ.go trivial (fun w H => RX.movev (v := Value.bool _) rfl) ?_
      refine JQ.splitS 35 rfl (fun h0 => ?_) (fun h0 => ?_)
      · skip
        first | have h0p := of_decide_eq_true h0 | skip
        have hdn : us.drop j = [] := List.drop_eq_nil_of_le (by omega)
        refine JQ.no ⟨_, rfl, gno h0⟩ ?_
        refine JQ.no ⟨_, rfl, gno h0⟩ ?_
        refine JQ.no ⟨_, rfl, gno h0⟩ ?_
        refine JQ.no ⟨_, rfl, gno h0⟩ ?_
        refine JQ.go trivial (fun w H => RX.pick_t rfl h0) ?_
        refine JQ.go trivial (fun w H => RX.movev (v := Value.bool _) rfl) ?_
        refine JQ.no ⟨_, rfl, gno rfl⟩ ?_
        refine JQ.no ⟨_, rfl, gno rfl⟩ ?_
        refine JQ.no ⟨_, rfl, gno rfl⟩ ?_
        refine JQ.no ⟨_, rfl, gno rfl⟩ ?_
        refine JQ.no ⟨_, rfl, gno rfl⟩ ?_
        refine JQ.no ⟨_, rfl, gno rfl⟩ ?_
        refine JQ.no ⟨_, rfl, gno rfl⟩ ?_
        refine JQ.go trivial (fun w H => RX.pick_t rfl rfl) ?_
        refine JQ.nil fun w H => ?_
        refine J.cond_t rfl rfl ?_
        refine J.exit rfl ?_
        refine J.region ?_
        refine JL.go trivial (RX.add rfl rfl (w_i64 (r := ((x.length + 1 : Nat) : Int)) (by omega) (by omega) (by omega))) ?_
        refine JL.go trivial (RX.movev (v := Value.int _ _) rfl) ?_
        refine JL.nil ?_
        have hxl : x.length + 1 = (x ++ [(0 : Int)]).length := by simp
        rw [← zpad_zero hx6] at H
        rw [hdn, ← rest_none hx6, ← hdn] at hfill
        rw [hxl]
        exact IH (j, x ++ [0], _) _ _ (by simp; omega) ⟨rfl, rfl, rfl, trivial⟩ ⟨rfl, rfl, trivial⟩ ⟨by simp; omega, snoc_ok hxo ⟨by decide, by decide⟩, hj, hfill, hsl, hsp, H.drop⟩
      · skip
        first | have h0p := of_decide_eq_false h0 | skip
        have hjl : j < us.length := by omega
        obtain ⟨u, hu⟩ : ∃ u, us[j]? = some u := ⟨_, List.getElem?_eq_getElem hjl⟩
        have hdr : us.drop j = u :: us.drop (j + 1) := by rw [List.drop_eq_getElem_cons hjl, (List.getElem?_eq_some_iff.1 hu).2]
        have huL := hul u (List.mem_of_getElem? hu)
        have hs1 := hsl
        obtain ⟨pb, po, hpe, _⟩ := (hsl []).some (by rw [strsV_len, hdr]; simp)
        subst hpe
        rw [hdr] at hs1 hfill
        refine JQ.go ⟨_, rfl, h0⟩ (fun w H => RX.movev (v := Value.slice _ _ _) rfl) ?_
        refine JQ.go ⟨_, rfl, h0⟩ (fun w H => RX.indexAddr rfl rfl sl78 (by omega) (by omega) rfl) ?_
        refine JQ.go ⟨_, rfl, h0⟩ (fun w H => RX.loadS H (hs1 _).cons.cons rfl (j := 0) (by simp) (v := .string ⟨u.toArray⟩) rfl one9) ?_
        refine JQ.go ⟨_, rfl, h0⟩ (fun w H => RX.str_eql rfl rfl) ?_
        refine JQ.go trivial (fun w H => RX.pick_f rfl h0) ?_
        refine JQ.go trivial (fun w H => RX.movev (v := Value.bool _) rfl) ?_
        refine JQ.splitS 41 rfl (fun h1 => ?_) (fun h1 => ?_)
        · skip
          first | have h1p := of_decide_eq_true h1 | skip
          have hu0 : u = [] := ba_inj h1p
          refine JQ.no ⟨_, rfl, gno h1⟩ ?_
          refine JQ.no ⟨_, rfl, gno h1⟩ ?_
          refine JQ.no ⟨_, rfl, gno h1⟩ ?_
          refine JQ.no ⟨_, rfl, gno h1⟩ ?_
          refine JQ.no ⟨_, rfl, gno h1⟩ ?_
          refine JQ.no ⟨_, rfl, gno h1⟩ ?_
          refine JQ.no ⟨_, rfl, gno h1⟩ ?_
          refine JQ.go trivial (fun w H => RX.pick_t rfl h1) ?_
          refine JQ.nil fun w H => ?_
          refine J.cond_t rfl rfl ?_
          refine J.exit rfl ?_
          refine J.region ?_
          refine JL.go trivial (RX.add rfl rfl (w_i64 (r := ((x.length + 1 : Nat) : Int)) (by omega) (by omega) (by omega))) ?_
          refine JL.go trivial (RX.movev (v := Value.int _ _) rfl) ?_
          refine JL.nil ?_
          have hxl : x.length + 1 = (x ++ [(0 : Int)]).length := by simp
          rw [← zpad_zero hx6] at H
          rw [← rest_skip hx6 (by rw [hu0]; exact fun t => by simp), ← hdr] at hfill
          rw [hxl]
          exact IH (j, x ++ [0], _) _ _ (by simp; omega) ⟨rfl, rfl, rfl, trivial⟩ ⟨rfl, rfl, trivial⟩ ⟨by simp; omega, snoc_ok hxo ⟨by decide, by decide⟩, hj, hfill, hsl, hsp, H.drop⟩
        · skip
          first | have h1p := of_decide_eq_false h1 | skip
          obtain ⟨c, tt, huc⟩ : ∃ c tt, u = c :: tt := List.exists_cons_of_ne_nil (fun e => h1p (by rw [e]))
          have httL : tt.length < 4294967281 := by rw [huc] at huL; simp at huL; omega
          refine JQ.go ⟨_, rfl, h1⟩ (fun w H => RX.movev (v := Value.slice _ _ _) rfl) ?_
          refine JQ.go ⟨_, rfl, h1⟩ (fun w H => RX.indexAddr rfl rfl sl78 (by omega) (by omega) rfl) ?_
          refine JQ.go ⟨_, rfl, h1⟩ (fun w H => RX.loadS H (hs1 _).cons.cons rfl (j := 0) (by simp) (v := .string ⟨u.toArray⟩) rfl one9) ?_
          refine JQ.go ⟨_, rfl, h1⟩ (fun w H => RX.indexStr rfl rfl ud9 (b := c) (by decide) (by simp [huc])) ?_
          refine JQ.go ⟨_, rfl, h1⟩ (fun w H => RX.fieldAddr rfl fo66_0 rfl) ?_
          refine JQ.go ⟨_, rfl, h1⟩ (fun w H => RX.load H rfl (i := 0) (v := .int .u8 (letters.getD x.length 0).toNat) rfl rfl one5) ?_
          refine JQ.go ⟨_, rfl, h1⟩ (fun w H => RX.ne rfl rfl) ?_
          refine JQ.go trivial (fun w H => RX.pick_f rfl h1) ?_
          refine JQ.nil fun w H => ?_
          refine J.cond_d rfl (fun hne => ?_) (fun hne => ?_)
          · skip
            refine J.exit rfl ?_
            refine J.region ?_
            refine JL.go trivial (RX.add rfl rfl (w_i64 (r := ((x.length + 1 : Nat) : Int)) (by omega) (by omega) (by omega))) ?_
            refine JL.go trivial (RX.movev (v := Value.int _ _) rfl) ?_
            refine JL.nil ?_
            have hxl : x.length + 1 = (x ++ [(0 : Int)]).length := by simp
            rw [← zpad_zero hx6] at H
            rw [← rest_skip hx6 (by rw [huc]; exact fun t e => hne (by rw [(List.cons.inj e).1])), ← hdr] at hfill
            rw [hxl]
            exact IH (j, x ++ [0], _) _ _ (by simp; omega) ⟨rfl, rfl, rfl, trivial⟩ ⟨rfl, rfl, trivial⟩ ⟨by simp; omega, snoc_ok hxo ⟨by decide, by decide⟩, hj, hfill, hsl, hsp, H.drop⟩
          · skip
            have hcl : c = letters.getD x.length 0 := UInt8.toNat_inj.1 (by have := Decidable.not_not.1 hne; omega)
            rw [hcl] at huc
            refine J.skip ?_
            refine J.seq ?_
            refine J.region ?_
            refine JL.go trivial (RX.movev (v := Value.slice _ _ _) rfl) ?_
            refine JL.go trivial (RX.indexAddr rfl rfl sl78 (by omega) (by omega) rfl) ?_
            refine JL.go trivial (RX.loadS H (hs1 _).cons.cons rfl (j := 0) (by simp) (v := .string ⟨u.toArray⟩) rfl one9) ?_
            refine JL.go trivial (RX.slStrL (a := u) (r := tt) rfl rfl ud9 (by decide) (by rw [huc]; simp; omega) (by rw [huc]; rfl)) ?_
            refine JL.does trivial (EX.call rfl cl48 rfl ((numb_b H ht.cons.cons.cons.cons hg.cons.cons.cons.cons httL))) ?_
            rintro _ w ⟨⟨m, rfl, hm, hmn⟩, H⟩
            refine JL.go trivial (RX.movev (v := Value.tuple _) rfl) ?_
            refine JL.go trivial (RX.extract (v := .int .i64 m) rfl rfl) ?_
            refine JL.go trivial (RX.extract (v := .bool (numS tt).isSome) rfl rfl) ?_
            refine JL.go trivial (RX.assignv (v := Value.int _ _) rfl) ?_
            refine JL.go trivial (RX.assignv (v := Value.bool _) rfl) ?_
            refine JL.nil ?_
            refine J.seq ?_
            refine J.seq ?_
            refine J.region ?_
            refine JL.go trivial (RX.movev (v := Value.bool _) rfl) ?_
            refine JL.go trivial (RX.not rfl) ?_
            refine JL.go trivial (RX.movev (v := Value.bool _) rfl) ?_
            refine JL.splitS 60 rfl (fun hno => ?_) (fun hno => ?_)
            · skip
              first | have hnop := of_decide_eq_true hno | skip
              have hbad : stepS s = none := by rw [hsd, hfill, huc, rest_bad hx6 (.inl (some_no hno))]; rfl
              refine JL.no ⟨_, rfl, gno hno⟩ ?_
              refine JL.no ⟨_, rfl, gno hno⟩ ?_
              refine JL.go trivial (RX.pick_t rfl hno) ?_
              refine JL.nil ?_
              refine J.cond_t rfl rfl ?_
              refine J.seq ?_
              refine J.region ?_
              refine JL.go trivial (RX.build (pv := []) (res := zst.v) rfl (by kernel_rfl)) ?_
              refine JL.does trivial (EX.storeAgg H rfl rfl (i := 3) (vs := zst.v) (l' := zst.v) rfl (stp_cell _) (by simp [Stp.v]) sz26 rfl rfl) ?_
              rintro _ w H
              refine JL.go trivial (RX.assign) ?_
              refine JL.nil ?_
              first | refine J.retct (x := Value.bool _) Tryd.func29 rfl H rfl (i := 0) rfl rfl ag26 rfl ?_ | refine J.retct (x := Value.bool _) Tryd.func29 rfl H rfl (i := 1) rfl rfl ag26 rfl ?_ | refine J.retct (x := Value.bool _) Tryd.func29 rfl H rfl (i := 2) rfl rfl ag26 rfl ?_ | refine J.retct (x := Value.bool _) Tryd.func29 rfl H rfl (i := 3) rfl rfl ag26 rfl ?_ | refine J.retct (x := Value.bool _) Tryd.func29 rfl H rfl (i := 4) rfl rfl ag26 rfl ?_
              exact ⟨_, rfl, StepR.none hbad, H.drop.drop.drop.drop⟩
            · skip
              first | have hnop := of_decide_eq_false hno | skip
              obtain ⟨n, hn⟩ := some_yes hno
              obtain rfl := hmn n hn
              refine JL.go ⟨_, rfl, hno⟩ (RX.movev (v := Value.int _ _) rfl) ?_
              refine JL.go ⟨_, rfl, hno⟩ (RX.eq rfl rfl) ?_
              refine JL.go trivial (RX.pick_f rfl hno) ?_
              refine JL.nil ?_
              refine J.cond_d rfl (fun hz => ?_) (fun hz => ?_)
              · skip
                first
                | (have hbad2 := hbad)
                | (have hbad : stepS s = none := by rw [hsd, hfill, huc, rest_bad hx6 (.inr (by rw [hn]; congr 1))]; rfl)
                refine J.seq ?_
                refine J.region ?_
                refine JL.go trivial (RX.build (pv := []) (res := zst.v) rfl (by kernel_rfl)) ?_
                refine JL.does trivial (EX.storeAgg H rfl rfl (i := 3) (vs := zst.v) (l' := zst.v) rfl (stp_cell _) (by simp [Stp.v]) sz26 rfl rfl) ?_
                rintro _ w H
                refine JL.go trivial (RX.assign) ?_
                refine JL.nil ?_
                first | refine J.retct (x := Value.bool _) Tryd.func29 rfl H rfl (i := 0) rfl rfl ag26 rfl ?_ | refine J.retct (x := Value.bool _) Tryd.func29 rfl H rfl (i := 1) rfl rfl ag26 rfl ?_ | refine J.retct (x := Value.bool _) Tryd.func29 rfl H rfl (i := 2) rfl rfl ag26 rfl ?_ | refine J.retct (x := Value.bool _) Tryd.func29 rfl H rfl (i := 3) rfl rfl ag26 rfl ?_ | refine J.retct (x := Value.bool _) Tryd.func29 rfl H rfl (i := 4) rfl rfl ag26 rfl ?_
                exact ⟨_, rfl, StepR.none hbad, H.drop.drop.drop.drop⟩
              · skip
                refine J.skip ?_
                refine J.seq ?_
                refine J.region ?_
                refine JL.go trivial (RX.fieldAddr rfl fo66_1 rfl) ?_
                refine JL.go trivial (RX.load H rfl (i := 0) (v := .func (.func (39 + x.length)) #[] #[]) rfl rfl one64) ?_
                refine JL.does trivial (EX.callv (f := 39 + x.length) (fv := []) (cv := []) rfl (getter_c hx6) rfl rfl (getter_b H hx6)) ?_
                rintro _ w ⟨rfl, H⟩
                refine JL.go trivial (RX.movev (v := Value.int _ _) rfl) ?_
                refine JL.go trivial (RX.nilCheck rfl) ?_
                refine JL.does trivial (EX.store (v := Value.int _ _) H rfl rfl (i := 1) rfl rfl (by simp [Stp.v]; omega) sz3 rfl rfl) ?_
                rintro _ w H
                refine JL.nil ?_
                simp only [List.set_cons_succ, List.set_cons_zero] at H
                rw [stp_set hx6] at H
                refine J.region ?_
                refine JL.go trivial (RX.movev (v := Value.slice _ _ _) rfl) ?_
                refine JL.go trivial (RX.slice_l rfl rfl sl78 hsp (by omega) (by omega) (r := 1) rfl) ?_
                refine JL.go trivial (RX.assignv (v := Value.slice _ _ _) rfl) ?_
                refine JL.nil ?_
                have hsl2 : ∀ L, SlAt ([(g, cel (strsV (u0 :: us)) 9)] :: L) (behind (some ⟨pb, po, none⟩) (us.length - j) 1 1) (strsV (us.drop (j + 1))) := fun L => SlAt.behind (cap := us.length - j) (r := 1) (sz := 1) (hs1 L) (by rw [strsV_len]; simp; omega)
                have hsp2 := behind_spot (c := us.length - j) (l := 1) (s := 1) hsp
                refine J.inBlock ?_
                refine J.region ?_
                refine JL.go trivial (RX.add rfl rfl (w_i64 (r := ((x.length + 1 : Nat) : Int)) (by omega) (by omega) (by omega))) ?_
                refine JL.go trivial (RX.movev (v := Value.int _ _) rfl) ?_
                refine JL.nil ?_
                have hxl : x.length + 1 = (x ++ [m]).length := by simp
                rw [huc, ← rest_num hx6 hn (by omega)] at hfill
                rw [hxl]
                exact IH (j + 1, x ++ [m], _) _ _ (by simp; omega) ⟨rfl, rfl, rfl, trivial⟩ ⟨rfl, rfl, trivial⟩ ⟨by simp; omega, snoc_ok hxo hm, by omega, hfill, hsl2, hsp2, H.drop⟩
    · skip
      have hx6 : x.length = 6 := by omega
      rw [rest_end hx6] at hfill
      refine J.exit rfl ?_
      refine J.seq ?_
      refine J.region ?_
      refine JL.go trivial (RX.loadAgg H rfl (i := 0) (vs := (stpOf op (zpad 6 x)).v) rfl rfl ag26) ?_
      refine JL.go trivial (RX.movev (v := Value.slice _ _ _) rfl) ?_
      refine JL.go trivial (RX.len_slice rfl (by rw [sl78]; rfl) rfl) ?_
      refine JL.go trivial (RX.eq rfl rfl) ?_
      refine JL.does trivial (EX.storeAgg H rfl rfl (i := 2) (vs := (stpOf op (zpad 6 x)).v) (l' := (stpOf op (zpad 6 x)).v) rfl (stp_cell _) (by simp [Stp.v]) sz26 rfl rfl) ?_
      rintro _ w H
      refine JL.go trivial (RX.assignv (v := Value.bool _) rfl) ?_
      refine JL.nil ?_
      first | refine J.retct (x := Value.bool _) Tryd.func29 rfl H rfl (i := 0) rfl rfl ag26 rfl ?_ | refine J.retct (x := Value.bool _) Tryd.func29 rfl H rfl (i := 1) rfl rfl ag26 rfl ?_ | refine J.retct (x := Value.bool _) Tryd.func29 rfl H rfl (i := 2) rfl rfl ag26 rfl ?_ | refine J.retct (x := Value.bool _) Tryd.func29 rfl H rfl (i := 3) rfl rfl ag26 rfl ?_ | refine J.retct (x := Value.bool _) Tryd.func29 rfl H rfl (i := 4) rfl rfl ag26 rfl ?_
      refine ⟨_, rfl, ⟨stpOf op (zpad 6 x), ?_, stpOf_ok ⟨by omega, by omega⟩ (zpad_ok hxo), fun y hy => ?_⟩, H.drop.drop.drop⟩
      · have e : decide (((us.length - j : Nat) : Int) = 0) = (stepS s).isSome := by
          rw [hsd, hfill]
          by_cases h : us.drop j = []
          · have h2 := congrArg List.length h
            rw [List.length_drop] at h2
            rw [if_pos h, decide_eq_true (by simp at h2; omega)]; rfl
          · rw [if_neg h, decide_eq_false (fun e => h (List.drop_eq_nil_of_le (by omega)))]; rfl
        rw [← e]
        rfl
      · rw [hsd, hfill] at hy
        split at hy
        · cases hy; rw [zpad_full hx6]
        · cases hy
theorem rstep_b {w0 w : World} {F : List Seg} (H : Hp w0 w F) {s : List UInt8} (hs : s.length < 4294967281) : Ret Tryd.prog 32 [.string ⟨s.toArray⟩] w fun v w' => StepR s v ∧ Hp w0 w' F := by
  refine Calls.of_J (n := 84) Tryd.func32 rfl rfl rfl ?_
  refine J.seq ?_
  refine J.region ?_
  refine JL.does trivial (EX.alloc H zr26 rfl) ?_
  rintro _ w ⟨b1, rfl, H⟩
  refine JL.go trivial (RX.assign) ?_
  refine JL.nil ?_
  refine J.seq ?_
  refine J.region ?_
  refine JL.go trivial (RX.movev (v := Value.string _) rfl) ?_
  refine JL.does trivial (EX.call rfl cl30 rfl ((rcut_b (b := 32) H hs))) ?_
  rintro _ w ⟨p, cc, sg, rfl, ho, H⟩
  obtain ⟨g, gl, rfl, rfl, hcn, _, hgl⟩ := ho.ptr (by unfold cutL; rw [cutL_len]; omega)
  obtain ⟨u0, us, hws⟩ : ∃ u0 us, cutL 32 s = u0 :: us := List.exists_cons_of_ne_nil (cutA_ne 32 s [])
  have hsd := stepS_eq hws
  have hlw : (cutL 32 s).length = us.length + 1 := by rw [hws]; rfl
  have husl : us.length ≤ s.length := by
    have h1 := cutL_len 32 s []
    have h2 := List.count_le_length (a := (32 : UInt8)) (l := s)
    unfold cutL at hlw
    omega
  have hul : ∀ u ∈ us, u.length < 4294967281 := fun u hu => by
    have h1 := cut_len_le (b := 32) (s := s) (l := u) (by rw [hws]; exact List.mem_cons_of_mem _ hu)
    omega
  rw [hws] at hgl
  rw [hlw]
  refine JL.go trivial (RX.assignv (v := Value.slice _ _ _) rfl) ?_
  refine JL.nil ?_
  refine J.seq ?_
  refine J.region ?_
  refine JL.go trivial (RX.movev (v := Value.slice _ _ _) rfl) ?_
  refine JL.go trivial (RX.indexAddr rfl rfl sl78 (by omega) (by omega) rfl) ?_
  refine JL.go trivial (RX.loadS H (SlAt.here (xs := strsV (u0 :: us)) hgl) rfl (j := 0) rfl (v := .string ⟨u0.toArray⟩) rfl one9) ?_
  refine JL.does trivial (EX.call rfl cl51 rfl ((rOp_b H))) ?_
  rintro v w ⟨hv, H⟩
  obtain rfl := op_val hv
  refine JL.go trivial (RX.movev (v := Value.tuple _) rfl) ?_
  refine JL.go trivial (RX.extract (v := .int .i64 ((opS u0).getD 0)) rfl rfl) ?_
  refine JL.go trivial (RX.extract (v := .bool (opS u0).isSome) rfl rfl) ?_
  refine JL.go trivial (RX.assignv (v := Value.int _ _) rfl) ?_
  refine JL.go trivial (RX.assignv (v := Value.bool _) rfl) ?_
  refine JL.nil ?_
  refine J.seq ?_
  refine J.seq ?_
  refine J.region ?_
  refine JL.go trivial (RX.movev (v := Value.bool _) rfl) ?_
  refine JL.go trivial (RX.not rfl) ?_
  refine JL.nil ?_
  refine J.cond rfl (fun hno0 => ?_) (fun hno0 => ?_)
  · skip
    rw [op_no hno0] at hsd
    refine J.seq ?_
    refine J.region ?_
    refine JL.go trivial (RX.build (pv := []) (res := zst.v) rfl (by kernel_rfl)) ?_
    refine JL.does trivial (EX.storeAgg H rfl rfl (i := 1) (vs := zst.v) (l' := zst.v) rfl (stp_cell _) (by simp [Stp.v]) sz26 rfl rfl) ?_
    rintro _ w H
    refine JL.go trivial (RX.assign) ?_
    refine JL.nil ?_
    first | refine J.retct (x := Value.bool _) Tryd.func32 rfl H rfl (i := 0) rfl rfl ag26 rfl ?_ | refine J.retct (x := Value.bool _) Tryd.func32 rfl H rfl (i := 1) rfl rfl ag26 rfl ?_ | refine J.retct (x := Value.bool _) Tryd.func32 rfl H rfl (i := 2) rfl rfl ag26 rfl ?_ | refine J.retct (x := Value.bool _) Tryd.func32 rfl H rfl (i := 3) rfl rfl ag26 rfl ?_
    exact ⟨_, rfl, StepR.none hsd, H.drop.drop⟩
  · skip
    obtain ⟨op, hop⟩ := op_yes hno0
    rw [hop] at hsd
    simp only at hsd
    have hopk := opS_ok hop
    rw [hop]
    refine J.skip ?_
    refine J.seq ?_
    refine J.region ?_
    refine JL.go trivial (RX.build (pv := []) (res := intsV (zpad 6 [])) rfl (by kernel_rfl)) ?_
    refine JL.does trivial (EX.alloc H zr95 rfl) ?_
    rintro _ w ⟨b7, rfl, H⟩
    refine JL.does trivial (EX.storeAgg H rfl rfl (i := 0) (vs := intsV (zpad 6 [])) (l' := intsV (zpad 6 [])) rfl (by simp [intsV, zpad, isCell]) (by simp [intsV, zpad]) sz95 rfl rfl) ?_
    rintro _ w H
    refine JL.nil ?_
    refine J.seq ?_
    refine J.region ?_
    refine JL.go trivial (RX.assign) ?_
    refine JL.nil ?_
    refine J.seq ?_
    refine J.seq ?_
    refine J.region ?_
    refine JL.go trivial (RX.movev (v := Value.slice _ _ _) rfl) ?_
    refine JL.go trivial (RX.slice_l rfl rfl sl78 (fun a ha => by cases ha; rfl) (by omega) (by omega) (r := 1) rfl) ?_
    obtain ⟨p0, hp0⟩ : ∃ p0, p0 = behind (some ⟨g, 0, none⟩) cc 1 1 := ⟨_, rfl⟩
    rw [← hp0]
    have hps0 : ∀ L, SlAt ([(g, cel gl 9)] :: L) p0 (strsV us) := fun L => by
      have h := SlAt.behind (cap := cc) (r := 1) (sz := 1) (show SlAt ([(g, cel gl 9)] :: L) (some ⟨g, 0, none⟩) (strsV (u0 :: us)) from (SlAt.here (xs := strsV (u0 :: us)) hgl)) (by rw [strsV_len, List.length_cons]; omega)
      rw [← hp0] at h
      exact h
    have hsp0 : ∀ a, p0 = some a → a.spot = none := by
      rw [hp0]; exact behind_spot (fun a ha => by cases ha; rfl)
    refine JL.go trivial (RX.len_slice rfl (by rw [sl78]; rfl) (r := (us.length : Int)) (by omega)) ?_
    refine JL.go trivial (RX.move) ?_
    refine JL.nil ?_
    refine J.block ?_
    refine J.loop (ι := Nat × List Int) (S := fun q => [(29, .int .i64 (q.1 : Nat)), (8, .int .i64 (q.2.length : Nat))]) (Φ := fun q w => q.2.length ≤ 6 ∧ (∀ n ∈ q.2, i64ok n) ∧ q.1 ≤ us.length ∧ fillS letters us = restS q.2 (us.drop q.1) ∧ Hp w0 w ([(b7, cel (intsV (zpad 6 q.2)) 95)] :: [(g, cel gl 9)] :: [(b1, cel zst.v 26)] :: F)) (μ := fun q => us.length - q.1) (C := [(2, _), (5, _), (7, _), (27, _), (28, _)]) (0, []) ⟨rfl, rfl, rfl, rfl, rfl, trivial⟩ ⟨rfl, rfl, trivial⟩ ?_ ?_
    · exact ⟨by simp, by simp, by simp, by simp only [List.drop_zero, rest_nil], H⟩
    clear H
    rintro ⟨j, x⟩ ρ w ⟨hx, hxo, hj, hfill, H⟩ IH
    simp only at hx hxo hj hfill H
    dsimp only
    refine J.seq ?_
    refine J.region ?_
    refine JL.go trivial (RX.lt rfl rfl) ?_
    refine JL.nil ?_
    refine J.seq ?_
    refine J.cond_d rfl (fun hlt => ?_) (fun hlt => ?_)
    · skip
      have hjl : j < us.length := by omega
      obtain ⟨u, hu⟩ : ∃ u, us[j]? = some u := ⟨_, List.getElem?_eq_getElem hjl⟩
      have hdr : us.drop j = u :: us.drop (j + 1) := by rw [List.drop_eq_getElem_cons hjl, (List.getElem?_eq_some_iff.1 hu).2]
      have huL := hul u (List.mem_of_getElem? hu)
      obtain ⟨pb, po, rfl, _⟩ := (hps0 []).some (by rw [strsV_len]; omega)
      rw [hdr] at hfill
      refine J.skip ?_
      refine J.seq ?_
      refine J.block ?_
      refine J.seq ?_
      refine J.region ?_
      refine JL.go trivial (RX.indexAddr rfl rfl sl78 (by omega) (by omega) (o' := po + j) (by simp)) ?_
      refine JL.go trivial (RX.loadS H (hps0 _).cons rfl (j := j) rfl (v := .string ⟨u.toArray⟩) (strsV_get hu) one9) ?_
      refine JL.go trivial (RX.assignv (v := Value.string _) rfl) ?_
      refine JL.nil ?_
      refine J.seq ?_
      refine J.block ?_
      refine J.loop (ι := List Int) (S := fun x => [(8, .int .i64 (x.length : Nat))]) (Φ := fun x w => x.length ≤ 6 ∧ (∀ n ∈ x, i64ok n) ∧ fillS letters us = restS x (u :: us.drop (j + 1)) ∧ Hp w0 w ([(b7, cel (intsV (zpad 6 x)) 95)] :: [(g, cel gl 9)] :: [(b1, cel zst.v 26)] :: F)) (μ := fun x => 6 - x.length) (C := [(2, _), (5, _), (7, _), (10, _), (27, _), (28, _), (29, _)]) x ⟨rfl, rfl, rfl, rfl, rfl, rfl, rfl, trivial⟩ ⟨rfl, trivial⟩ ?_ ?_
      · exact ⟨hx, hxo, hfill, H⟩
      clear H hx hxo hfill
      rintro x ρ w ⟨hx, hxo, hfill, H⟩ IH2
      refine J.seq ?_
      refine J.seq ?_
      refine J.quietH H hmix (by kernel_rfl) ?_
      refine JQ.go trivial (fun w H => RX.movev (v := Value.int _ _) rfl) ?_
      refine JQ.go trivial (fun w H => RX.lt rfl rfl) ?_
      refine JQ.go trivial (fun w H => RX.movev (v := Value.bool _) rfl) ?_
      refine JQ.splitS 35 rfl (fun h6 => ?_) (fun h6 => ?_)
      · skip
        first | have h6p := of_decide_eq_true h6 | skip
        have hx6 : x.length < 6 := by omega
        refine JQ.go ⟨_, rfl, h6⟩ (fun w H => RX.movev (v := Value.string _) rfl) ?_
        refine JQ.go ⟨_, rfl, h6⟩ (fun w H => RX.str_eql rfl rfl) ?_
        refine JQ.go ⟨_, rfl, h6⟩ (fun w H => RX.movev (v := Value.bool _) rfl) ?_
        refine JQ.splitS 38 rfl (fun h1 => ?_) (fun h1 => ?_)
        · skip
          first | have h1p := of_decide_eq_true h1 | skip
          have hu0 : u = [] := ba_inj h1p
          refine JQ.no ⟨_, rfl, gno h1⟩ ?_
          refine JQ.no ⟨_, rfl, gno h1⟩ ?_
          refine JQ.no ⟨_, rfl, gno h1⟩ ?_
          refine JQ.no ⟨_, rfl, gno h1⟩ ?_
          refine JQ.no ⟨_, rfl, gno h1⟩ ?_
          refine JQ.go ⟨_, rfl, h6⟩ (fun w H => RX.pick_t rfl h1) ?_
          refine JQ.go trivial (fun w H => RX.pick_t rfl h6) ?_
          refine JQ.nil fun w H => ?_
          refine J.cond_t rfl rfl ?_
          refine J.skip ?_
          refine J.block ?_
          refine J.region ?_
          refine JL.go trivial (RX.movev (v := Value.int _ _) rfl) ?_
          refine JL.go trivial (RX.add rfl rfl (w_i64 (r := ((x.length + 1 : Nat) : Int)) (by omega) (by omega) (by omega))) ?_
          refine JL.go trivial (RX.assignv (v := Value.int _ _) rfl) ?_
          refine JL.nil ?_
          refine J.inBlock ?_
          have hxl : x.length + 1 = (x ++ [(0 : Int)]).length := by simp
          rw [← zpad_zero hx6] at H
          rw [← rest_skip hx6 (by rw [hu0]; exact fun t => by simp)] at hfill
          rw [hxl]
          exact IH2 (x ++ [0]) _ _ (by simp; omega) ⟨rfl, rfl, rfl, rfl, rfl, rfl, rfl, trivial⟩ ⟨rfl, trivial⟩ ⟨by simp; omega, snoc_ok hxo ⟨by decide, by decide⟩, hfill, H⟩
        · skip
          first | have h1p := of_decide_eq_false h1 | skip
          obtain ⟨c, tt, huc⟩ : ∃ c tt, u = c :: tt := List.exists_cons_of_ne_nil (fun e => h1p (by rw [e]))
          have httL : tt.length < 4294967281 := by rw [huc] at huL; simp at huL; omega
          refine JQ.go ⟨_, rfl, h1⟩ (fun w H => RX.movev (v := Value.string _) rfl) ?_
          refine JQ.go ⟨_, rfl, h1⟩ (fun w H => RX.indexStr rfl rfl ud9 (b := c) (by decide) (by simp [huc])) ?_
          refine JQ.go ⟨_, rfl, h1⟩ (fun w H => RX.movev (v := Value.int _ _) rfl) ?_
          refine JQ.go ⟨_, rfl, h1⟩ (fun w H => RX.indexStr rfl rfl ud9 (b := letters.getD x.length 0) (by omega) (letters_at hx6)) ?_
          refine JQ.go ⟨_, rfl, h1⟩ (fun w H => RX.ne rfl rfl) ?_
          refine JQ.go ⟨_, rfl, h6⟩ (fun w H => RX.pick_f rfl h1) ?_
          refine JQ.go trivial (fun w H => RX.pick_t rfl h6) ?_
          refine JQ.nil fun w H => ?_
          refine J.cond_d rfl (fun hne => ?_) (fun hne => ?_)
          · skip
            refine J.skip ?_
            refine J.block ?_
            refine J.region ?_
            refine JL.go trivial (RX.movev (v := Value.int _ _) rfl) ?_
            refine JL.go trivial (RX.add rfl rfl (w_i64 (r := ((x.length + 1 : Nat) : Int)) (by omega) (by omega) (by omega))) ?_
            refine JL.go trivial (RX.assignv (v := Value.int _ _) rfl) ?_
            refine JL.nil ?_
            refine J.inBlock ?_
            have hxl : x.length + 1 = (x ++ [(0 : Int)]).length := by simp
            rw [← zpad_zero hx6] at H
            rw [← rest_skip hx6 (by rw [huc]; exact fun t e => hne (by rw [(List.cons.inj e).1]))] at hfill
            rw [hxl]
            exact IH2 (x ++ [0]) _ _ (by simp; omega) ⟨rfl, rfl, rfl, rfl, rfl, rfl, rfl, trivial⟩ ⟨rfl, trivial⟩ ⟨by simp; omega, snoc_ok hxo ⟨by decide, by decide⟩, hfill, H⟩
          · skip
            have hcl : c = letters.getD x.length 0 := UInt8.toNat_inj.1 (by have := Decidable.not_not.1 hne; omega)
            rw [hcl] at huc
            refine J.exit rfl ?_
            refine J.seq ?_
            refine J.seq ?_
            refine J.region ?_
            refine JL.go trivial (RX.movev (v := Value.int _ _) rfl) ?_
            refine JL.go trivial (RX.eq rfl rfl) ?_
            refine JL.nil ?_
            refine J.cond_f rfl (decide_eq_false (by omega)) ?_
            refine J.skip ?_
            refine J.seq ?_
            refine J.region ?_
            refine JL.go trivial (RX.movev (v := Value.string _) rfl) ?_
            refine JL.go trivial (RX.slStrL (a := u) (r := tt) rfl rfl ud9 (by decide) (by rw [huc]; simp; omega) (by rw [huc]; rfl)) ?_
            refine JL.does trivial (EX.call rfl cl50 rfl ((read_b H httL))) ?_
            rintro _ w ⟨⟨m, rfl, hm, hmn⟩, H⟩
            refine JL.go trivial (RX.movev (v := Value.tuple _) rfl) ?_
            refine JL.go trivial (RX.extract (v := .int .i64 m) rfl rfl) ?_
            refine JL.go trivial (RX.extract (v := .bool (numS tt).isSome) rfl rfl) ?_
            refine JL.go trivial (RX.assignv (v := Value.int _ _) rfl) ?_
            refine JL.go trivial (RX.assignv (v := Value.bool _) rfl) ?_
            refine JL.nil ?_
            refine J.seq ?_
            refine J.seq ?_
            refine J.region ?_
            refine JL.go trivial (RX.movev (v := Value.bool _) rfl) ?_
            refine JL.go trivial (RX.not rfl) ?_
            refine JL.go trivial (RX.movev (v := Value.bool _) rfl) ?_
            refine JL.splitS 59 rfl (fun hno => ?_) (fun hno => ?_)
            · skip
              first | have hnop := of_decide_eq_true hno | skip
              have hbad : stepS s = none := by rw [hsd, hfill, huc, rest_bad hx6 (.inl (some_no hno))]; rfl
              refine JL.no ⟨_, rfl, gno hno⟩ ?_
              refine JL.no ⟨_, rfl, gno hno⟩ ?_
              refine JL.go trivial (RX.pick_t rfl hno) ?_
              refine JL.nil ?_
              refine J.cond_t rfl rfl ?_
              refine J.seq ?_
              refine J.region ?_
              refine JL.go trivial (RX.build (pv := []) (res := zst.v) rfl (by kernel_rfl)) ?_
              refine JL.does trivial (EX.storeAgg H rfl rfl (i := 2) (vs := zst.v) (l' := zst.v) rfl (stp_cell _) (by simp [Stp.v]) sz26 rfl rfl) ?_
              rintro _ w H
              refine JL.go trivial (RX.assign) ?_
              refine JL.nil ?_
              first | refine J.retct (x := Value.bool _) Tryd.func32 rfl H rfl (i := 0) rfl rfl ag26 rfl ?_ | refine J.retct (x := Value.bool _) Tryd.func32 rfl H rfl (i := 1) rfl rfl ag26 rfl ?_ | refine J.retct (x := Value.bool _) Tryd.func32 rfl H rfl (i := 2) rfl rfl ag26 rfl ?_ | refine J.retct (x := Value.bool _) Tryd.func32 rfl H rfl (i := 3) rfl rfl ag26 rfl ?_
              exact ⟨_, rfl, StepR.none hbad, H.drop.drop.drop⟩
            · skip
              first | have hnop := of_decide_eq_false hno | skip
              obtain ⟨n, hn⟩ := some_yes hno
              obtain rfl := hmn n hn
              refine JL.go ⟨_, rfl, hno⟩ (RX.movev (v := Value.int _ _) rfl) ?_
              refine JL.go ⟨_, rfl, hno⟩ (RX.eq rfl rfl) ?_
              refine JL.go trivial (RX.pick_f rfl hno) ?_
              refine JL.nil ?_
              refine J.cond_d rfl (fun hz => ?_) (fun hz => ?_)
              · skip
                first
                | (have hbad2 := hbad)
                | (have hbad : stepS s = none := by rw [hsd, hfill, huc, rest_bad hx6 (.inr (by rw [hn]; congr 1))]; rfl)
                refine J.seq ?_
                refine J.region ?_
                refine JL.go trivial (RX.build (pv := []) (res := zst.v) rfl (by kernel_rfl)) ?_
                refine JL.does trivial (EX.storeAgg H rfl rfl (i := 2) (vs := zst.v) (l' := zst.v) rfl (stp_cell _) (by simp [Stp.v]) sz26 rfl rfl) ?_
                rintro _ w H
                refine JL.go trivial (RX.assign) ?_
                refine JL.nil ?_
                first | refine J.retct (x := Value.bool _) Tryd.func32 rfl H rfl (i := 0) rfl rfl ag26 rfl ?_ | refine J.retct (x := Value.bool _) Tryd.func32 rfl H rfl (i := 1) rfl rfl ag26 rfl ?_ | refine J.retct (x := Value.bool _) Tryd.func32 rfl H rfl (i := 2) rfl rfl ag26 rfl ?_ | refine J.retct (x := Value.bool _) Tryd.func32 rfl H rfl (i := 3) rfl rfl ag26 rfl ?_
                exact ⟨_, rfl, StepR.none hbad, H.drop.drop.drop⟩
              · skip
                refine J.skip ?_
                refine J.seq ?_
                refine J.region ?_
                refine JL.go trivial (RX.movev (v := Value.int _ _) rfl) ?_
                refine JL.go trivial (RX.movev (v := Value.int _ _) rfl) ?_
                refine JL.go trivial (RX.indexArr rfl rfl ar95 (by omega) (by omega) rfl) ?_
                refine JL.does trivial (EX.store (v := Value.int _ _) H rfl rfl (i := 0) rfl rfl (by rw [intsV_len, zpad_len hx]; omega) sz3 rfl rfl) ?_
                rintro _ w H
                refine JL.nil ?_
                have hzs := zpad_set (m := m) hx6
                simp only [Int.toNat_natCast, Nat.mul_one, Nat.zero_add, List.set_cons_zero] at H
                rw [hzs] at H
                refine J.region ?_
                refine JL.go trivial (RX.movev (v := Value.int _ _) rfl) ?_
                refine JL.go trivial (RX.add rfl rfl (w_i64 (r := ((x.length + 1 : Nat) : Int)) (by omega) (by omega) (by omega))) ?_
                refine JL.go trivial (RX.assignv (v := Value.int _ _) rfl) ?_
                refine JL.nil ?_
                refine J.inBlock ?_
                refine J.region ?_
                refine JL.go trivial (RX.add rfl rfl (w_i64 (r := ((j + 1 : Nat) : Int)) (by omega) (by omega) (by omega))) ?_
                refine JL.go trivial (RX.movev (v := Value.int _ _) rfl) ?_
                refine JL.nil ?_
                have hxl : x.length + 1 = (x ++ [m]).length := by simp
                rw [huc, ← rest_num hx6 hn (by omega)] at hfill
                rw [hxl]
                exact IH (j + 1, x ++ [m]) _ _ (by simp only; omega) ⟨rfl, rfl, rfl, rfl, rfl, trivial⟩ ⟨rfl, rfl, trivial⟩ ⟨by simp; omega, snoc_ok hxo hm, by omega, hfill, H⟩
      · skip
        first | have h6p := of_decide_eq_false h6 | skip
        have hx6 : x.length = 6 := by omega
        rw [rest_end hx6, if_neg (by simp)] at hfill
        have hbad : stepS s = none := by rw [hsd, hfill]; rfl
        refine JQ.no ⟨_, rfl, gno h6⟩ ?_
        refine JQ.no ⟨_, rfl, gno h6⟩ ?_
        refine JQ.no ⟨_, rfl, gno h6⟩ ?_
        refine JQ.no ⟨_, rfl, nofun⟩ ?_
        refine JQ.no ⟨_, rfl, nofun⟩ ?_
        refine JQ.no ⟨_, rfl, nofun⟩ ?_
        refine JQ.no ⟨_, rfl, nofun⟩ ?_
        refine JQ.no ⟨_, rfl, nofun⟩ ?_
        refine JQ.no ⟨_, rfl, gno h6⟩ ?_
        refine JQ.go trivial (fun w H => RX.pick_f rfl h6) ?_
        refine JQ.nil fun w H => ?_
        refine J.cond_f rfl rfl ?_
        refine J.exit rfl ?_
        refine J.seq ?_
        refine J.seq ?_
        refine J.region ?_
        refine JL.go trivial (RX.movev (v := Value.int _ _) rfl) ?_
        refine JL.go trivial (RX.eq rfl rfl) ?_
        refine JL.nil ?_
        refine J.cond_t rfl (decide_eq_true (by omega)) ?_
        refine J.seq ?_
        refine J.region ?_
        refine JL.go trivial (RX.build (pv := []) (res := zst.v) rfl (by kernel_rfl)) ?_
        refine JL.does trivial (EX.storeAgg H rfl rfl (i := 2) (vs := zst.v) (l' := zst.v) rfl (stp_cell _) (by simp [Stp.v]) sz26 rfl rfl) ?_
        rintro _ w H
        refine JL.go trivial (RX.assign) ?_
        refine JL.nil ?_
        first | refine J.retct (x := Value.bool _) Tryd.func32 rfl H rfl (i := 0) rfl rfl ag26 rfl ?_ | refine J.retct (x := Value.bool _) Tryd.func32 rfl H rfl (i := 1) rfl rfl ag26 rfl ?_ | refine J.retct (x := Value.bool _) Tryd.func32 rfl H rfl (i := 2) rfl rfl ag26 rfl ?_ | refine J.retct (x := Value.bool _) Tryd.func32 rfl H rfl (i := 3) rfl rfl ag26 rfl ?_
        exact ⟨_, rfl, StepR.none hbad, H.drop.drop.drop⟩
    · skip
      have hje : j = us.length := by omega
      rw [hje, List.drop_length, rest_done hx] at hfill
      refine J.exit rfl ?_
      refine J.seq ?_
      refine J.region ?_
      refine JL.go trivial (RX.movev (v := Value.int _ _) rfl) ?_
      refine JL.go trivial (RX.indexArr rfl rfl ar95 (by omega) (by omega) rfl) ?_
      refine JL.go trivial (RX.load H rfl (i := 0) (v := .int .i64 ((zpad 6 x).getD 0 0)) rfl (zpad_get (by decide) hx) one3) ?_
      refine JL.go trivial (RX.indexArr rfl rfl ar95 (by omega) (by omega) rfl) ?_
      refine JL.go trivial (RX.load H rfl (i := 0) (v := .int .i64 ((zpad 6 x).getD 1 0)) rfl (zpad_get (by decide) hx) one3) ?_
      refine JL.go trivial (RX.indexArr rfl rfl ar95 (by omega) (by omega) rfl) ?_
      refine JL.go trivial (RX.load H rfl (i := 0) (v := .int .i64 ((zpad 6 x).getD 2 0)) rfl (zpad_get (by decide) hx) one3) ?_
      refine JL.go trivial (RX.indexArr rfl rfl ar95 (by omega) (by omega) rfl) ?_
      refine JL.go trivial (RX.load H rfl (i := 0) (v := .int .i64 ((zpad 6 x).getD 3 0)) rfl (zpad_get (by decide) hx) one3) ?_
      refine JL.go trivial (RX.indexArr rfl rfl ar95 (by omega) (by omega) rfl) ?_
      refine JL.go trivial (RX.load H rfl (i := 0) (v := .int .i64 ((zpad 6 x).getD 4 0)) rfl (zpad_get (by decide) hx) one3) ?_
      refine JL.go trivial (RX.indexArr rfl rfl ar95 (by omega) (by omega) rfl) ?_
      refine JL.go trivial (RX.load H rfl (i := 0) (v := .int .i64 ((zpad 6 x).getD 5 0)) rfl (zpad_get (by decide) hx) one3) ?_
      refine JL.go trivial (RX.build (pv := [(0, .int .i64 op), (1, .int .i64 ((zpad 6 x).getD 0 0)), (2, .int .i64 ((zpad 6 x).getD 1 0)), (3, .int .i64 ((zpad 6 x).getD 2 0)), (4, .int .i64 ((zpad 6 x).getD 3 0)), (5, .int .i64 ((zpad 6 x).getD 4 0)), (6, .int .i64 ((zpad 6 x).getD 5 0))]) (res := (stpOf op (zpad 6 x)).v) rfl (by kernel_rfl)) ?_
      refine JL.does trivial (EX.storeAgg H rfl rfl (i := 2) (vs := (stpOf op (zpad 6 x)).v) (l' := (stpOf op (zpad 6 x)).v) rfl (stp_cell _) (by simp [Stp.v]) sz26 rfl rfl) ?_
      rintro _ w H
      refine JL.go trivial (RX.assign) ?_
      refine JL.nil ?_
      first | refine J.retct (x := Value.bool _) Tryd.func32 rfl H rfl (i := 0) rfl rfl ag26 rfl ?_ | refine J.retct (x := Value.bool _) Tryd.func32 rfl H rfl (i := 1) rfl rfl ag26 rfl ?_ | refine J.retct (x := Value.bool _) Tryd.func32 rfl H rfl (i := 2) rfl rfl ag26 rfl ?_ | refine J.retct (x := Value.bool _) Tryd.func32 rfl H rfl (i := 3) rfl rfl ag26 rfl ?_
      refine ⟨_, rfl, ⟨stpOf op (zpad 6 x), ?_, stpOf_ok ⟨by omega, by omega⟩ (zpad_ok hxo), fun y hy => ?_⟩, H.drop.drop.drop⟩
      · rw [hsd, hfill]; rfl
      · rw [hsd, hfill] at hy
        cases hy; rfl
end Go.Proofs.YtgkmmbdlclecnaaDoor
