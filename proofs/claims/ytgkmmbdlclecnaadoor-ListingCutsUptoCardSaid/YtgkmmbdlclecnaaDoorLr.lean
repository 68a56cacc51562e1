/- The law ListingReads. -/
import Derived.Test.YtgkmmbdlclecnaaDoorRs
namespace Go.Proofs.YtgkmmbdlclecnaaDoor
open Go Go.Eng
set_option maxRecDepth 100000
set_option linter.unusedVariables false
set_option linter.unusedSimpArgs false
theorem cl14 : callable Tryd.prog 14 = true := by kernel_rfl
theorem cl15 : callable Tryd.prog 15 = true := by kernel_rfl

theorem lines_code : ∀ (ls : List (List UInt8)) (p : Prg) (i : Nat), (linesS p i ls).code = 0 ∨ (linesS p i ls).code = 6 ∨ (linesS p i ls).code = 9
  | [], _, _ => by rw [linesS]; exact .inr (.inl rfl)
  | [l], _, _ => by rw [linesS]; split; exact .inl rfl; exact .inr (.inl rfl)
  | l :: l2 :: ls, p, i => by
    rw [linesS]
    split
    · exact .inr (.inl rfl)
    · split
      · exact lines_code (l2 :: ls) _ _
      · exact .inr (.inr rfl)
theorem readS_code (s : List UInt8) : (readS s).code = 0 ∨ (readS s).code = 6 ∨ (readS s).code = 9 := by
  unfold readS
  split
  · exact .inr (.inl rfl)
  · exact .inr (.inl rfl)
  · split
    · exact .inr (.inl rfl)
    · exact lines_code _ _ _
theorem code_le (s : List UInt8) : (readS s).code ≤ 19 := by
  rcases readS_code s with h | h | h <;> omega
theorem lines_len : ∀ (ls : List (List UInt8)) (p : Prg) (i : Nat), (linesS p i ls).prg.steps.length ≤ p.steps.length + ls.length
  | [], _, _ => by rw [linesS]; simp [RR.prg, prg0]
  | [l], _, _ => by rw [linesS]; split <;> simp [RR.prg, prg0]
  | l :: l2 :: ls, p, i => by
    rw [linesS]
    split
    · simp [RR.prg, prg0]
    · rename_i x _
      split
      · have := lines_len (l2 :: ls) { p with steps := p.steps ++ [x] } (i + 1)
        simp only [List.length_append, List.length_cons, List.length_nil] at this ⊢
        exact Nat.le_trans this (by omega)
      · simp [RR.prg, prg0]
theorem readS_len (s : List UInt8) : (readS s).prg.steps.length ≤ s.length + 1 := by
  have h1 := cutL_len 10 s []
  have h2 := List.count_le_length (a := (10 : UInt8)) (l := s)
  have h3 : (cutL 10 s).length = s.count 10 + 1 := h1
  unfold readS
  split
  · simp [RR.prg, prg0]
  · simp [RR.prg, prg0]
  · rename_i l l2 ls hc
    rw [hc] at h3
    split
    · simp [RR.prg, prg0]
    · rename_i p hp
      have := lines_len (l2 :: ls) p 1
      rw [head_steps hp] at this
      simp only [List.length_cons, List.length_nil] at this h3
      omega

theorem ListingReads_b {w0 w : World} {F : List Seg} {E : Nat → Value} {Q : Nat → Addr} (H : Hp w0 w F) (hE : Errs F E Q) (hT : SlAt F (some ⟨19, 0, none⟩) tableC) (ht : GTab F) (hg : RdG F) {s : List UInt8} (hs : s.length < 4294967281) : Ret Tryd.prog 4 [.string ⟨s.toArray⟩] w fun v w' => v = .bool true ∧ Hp w0 w' F := by
  refine Calls.of_J (n := 39) Tryd.func4 rfl rfl rfl ?_
  refine J.seq ?_
  refine J.region ?_
  refine JL.go trivial (RX.assign) ?_
  refine JL.nil ?_
  refine J.seq ?_
  refine J.region ?_
  refine JL.does trivial (EX.call rfl cl7 rfl ((lives_b H hE hT ht))) ?_
  rintro _ w ⟨rfl, H⟩
  refine JL.go trivial (RX.assignv (v := Value.bool _) rfl) ?_
  refine JL.nil ?_
  refine J.seq ?_
  refine J.seq ?_
  refine J.region ?_
  refine JL.go trivial (RX.movev (v := Value.bool _) rfl) ?_
  refine JL.go trivial (RX.not rfl) ?_
  refine JL.nil ?_
  refine J.cond_f rfl rfl ?_
  refine J.skip ?_
  refine J.seq ?_
  refine J.region ?_
  refine JL.go trivial (RX.movev (v := Value.string _) rfl) ?_
  refine JL.does trivial (EX.call rfl cl14 rfl ((Read_b H (hE.at_ 6 (by decide) (by decide)) (hE.at_ 9 (by decide) (by decide)) hT ht hg hs))) ?_
  rintro _ w ⟨ps, ⟨pp, pc, rfl, ho⟩, H⟩
  refine JL.go trivial (RX.movev (v := Value.tuple _) rfl) ?_
  refine JL.go trivial (RX.extract (v := .agg (prgV (readS s).prg pp (readS s).prg.steps.length pc).toArray) rfl rfl) ?_
  refine JL.go trivial (RX.extract (v := .int .i64 ((readS s).line : Nat)) rfl rfl) ?_
  refine JL.go trivial (RX.extract (v := errV E (readS s).code) rfl rfl) ?_
  refine JL.does trivial (EX.alloc H zr24 rfl) ?_
  rintro _ w ⟨b1, rfl, H⟩
  refine JL.does trivial (EX.storeAgg H rfl rfl (i := 0) (vs := prgV (readS s).prg pp (readS s).prg.steps.length pc) (l' := prgV (readS s).prg pp (readS s).prg.steps.length pc) rfl prgV_cell (by simp [prgV]) sz24 rfl rfl) ?_
  rintro _ w H
  refine JL.go trivial (RX.assignv (v := Value.int _ _) rfl) ?_
  refine JL.go trivial (RX.assignv (v := errV E (readS s).code) rfl) ?_
  refine JL.nil ?_
  refine J.seq ?_
  refine J.region ?_
  refine JL.go trivial (RX.movev (v := Value.string _) rfl) ?_
  refine JL.does trivial (EX.call rfl cl15 rfl ((rRead_b H hs))) ?_
  rintro _ w ⟨ps2, ⟨pp2, pc2, rfl, ho2⟩, H⟩
  refine JL.go trivial (RX.movev (v := Value.tuple _) rfl) ?_
  refine JL.go trivial (RX.extract (v := .agg (prgV (readS s).prg pp2 (readS s).prg.steps.length pc2).toArray) rfl rfl) ?_
  refine JL.go trivial (RX.extract (v := .int .i64 ((readS s).line : Nat)) rfl rfl) ?_
  refine JL.go trivial (RX.extract (v := codeV (readS s).code) rfl rfl) ?_
  refine JL.does trivial (EX.alloc H zr24 rfl) ?_
  rintro _ w ⟨b2, rfl, H⟩
  refine JL.does trivial (EX.storeAgg H rfl rfl (i := 0) (vs := prgV (readS s).prg pp2 (readS s).prg.steps.length pc2) (l' := prgV (readS s).prg pp2 (readS s).prg.steps.length pc2) rfl prgV_cell (by simp [prgV]) sz24 rfl rfl) ?_
  rintro _ w H
  refine JL.go trivial (RX.assignv (v := Value.int _ _) rfl) ?_
  refine JL.go trivial (RX.assignv (v := .int .i64 ((readS s).code : Nat)) rfl) ?_
  refine JL.nil ?_
  have hln := readS_len s
  refine J.seq ?_
  refine J.region ?_
  refine JL.go trivial (RX.loadAgg H rfl (i := 2) (vs := prgV (readS s).prg pp (readS s).prg.steps.length pc) rfl rfl ag24) ?_
  refine JL.go trivial (RX.loadAgg H rfl (i := 0) (vs := prgV (readS s).prg pp2 (readS s).prg.steps.length pc2) rfl rfl ag24) ?_
  refine JL.does trivial (EX.call rfl cl11 rfl ((rSame_b H (SlAt.cons (SlAt.cons (SlAt.cons ho.slAt))) (SlAt.cons ho2.slAt) (by omega) (by omega)))) ?_
  rintro _ w ⟨rfl, H⟩
  refine JL.go trivial (RX.movev (v := Value.bool _) rfl) ?_
  refine JL.go ⟨_, rfl, (decide_eq_true rfl)⟩ (RX.movev (v := Value.int _ _) rfl) ?_
  refine JL.go ⟨_, rfl, (decide_eq_true rfl)⟩ (RX.movev (v := Value.int _ _) rfl) ?_
  refine JL.go ⟨_, rfl, (decide_eq_true rfl)⟩ (RX.eq rfl rfl) ?_
  refine JL.go trivial (RX.pick_t rfl (decide_eq_true rfl)) ?_
  refine JL.go trivial (RX.movev (v := Value.bool _) rfl) ?_
  refine JL.go ⟨_, rfl, (decide_eq_true rfl)⟩ (RX.movev (v := errV E (readS s).code) rfl) ?_
  refine JL.does ⟨_, rfl, (decide_eq_true rfl)⟩ (EX.call rfl cl10 rfl ((Num_b H hE.cons.cons.cons.cons (code_le s)))) ?_
  rintro _ w ⟨rfl, H⟩
  refine JL.go ⟨_, rfl, (decide_eq_true rfl)⟩ (RX.movev (v := Value.int _ _) rfl) ?_
  refine JL.go ⟨_, rfl, (decide_eq_true rfl)⟩ (RX.eq rfl rfl) ?_
  refine JL.go trivial (RX.pick_t rfl (decide_eq_true rfl)) ?_
  refine JL.go trivial (RX.assignv (v := Value.bool _) rfl) ?_
  refine JL.nil ?_
  refine J.ret1 (v := Value.bool _) Tryd.func4 rfl rfl ?_
  exact ⟨_, rfl, by simp, H.drop.drop.drop.drop⟩
end Go.Proofs.YtgkmmbdlclecnaaDoor
