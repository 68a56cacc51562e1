/- Linear and Cyclic of two small lists. -/
import Derived.Test.YtfdghjlfplhpjaaGreatDoorZm
namespace Go.Proofs.YtfdghjlfplhpjaaGreatDoor
open Go Go.Eng
set_option maxRecDepth 100000
set_option linter.unusedVariables false
set_option linter.unusedSimpArgs false
theorem cl22 : callable Tryz.prog 22 = true := by kernel_rfl
theorem cl23 : callable Tryz.prog 23 = true := by kernel_rfl
theorem cl24 : callable Tryz.prog 24 = true := by kernel_rfl
theorem sz3 : szOf Tryz.prog 3 = some 1 := by kernel_rfl
theorem zr3 : (Tryz.prog.info? 3).bind (·.zero) = some (.int .i64 0) := by kernel_rfl
theorem LinAt_b {w0 w : World} {L : List Seg} (H : Hp w0 w L) {i j : Nat} (hij : i + j ≤ 1000000) : Ret Tryz.prog 23 [.int .i64 ((i : Nat) : Int), .int .i64 ((j : Nat) : Int)] w fun v w' => v = .int .i64 ((i + j : Nat) : Int) ∧ Hp w0 w' L := by
  refine Calls.of_J (n := 8) Tryz.func23 rfl rfl rfl ?_
  refine J.seq ?_
  refine J.region ?_
  refine JL.go trivial (RX.assign) ?_
  refine JL.nil ?_
  refine J.seq ?_
  refine J.region ?_
  refine JL.go trivial (RX.movev (v := Value.int _ _) rfl) ?_
  refine JL.go trivial (RX.movev (v := Value.int _ _) rfl) ?_
  refine JL.go trivial (RX.add rfl rfl (wi (n := i + j) (by omega) (by omega))) ?_
  refine JL.go trivial (RX.assignv (v := Value.int _ _) rfl) ?_
  refine JL.nil ?_
  refine J.ret1 (v := Value.int _ _) Tryz.func23 rfl rfl ?_
  exact ⟨_, rfl, rfl, H⟩
theorem CycAt_b {w0 w : World} {L : List Seg} (H : Hp w0 w L) {i j n b : Nat} (hs : SlAt L (some ⟨b, 0, none⟩) [.int .i64 ((n : Nat) : Int)]) (hn : 0 < n) (hij : i + j ≤ 1000000) : Ret Tryz.prog 24 [.int .i64 ((i : Nat) : Int), .int .i64 ((j : Nat) : Int), .pointer (some ⟨b, 0, none⟩)] w fun v w' => v = .int .i64 (((i + j) % n : Nat) : Int) ∧ Hp w0 w' L := by
  refine Calls.of_J (n := 11) Tryz.func24 rfl rfl rfl ?_
  refine J.seq ?_
  refine J.region ?_
  refine JL.go trivial (RX.assign) ?_
  refine JL.nil ?_
  refine J.seq ?_
  refine J.region ?_
  refine JL.go trivial (RX.movev (v := Value.int _ _) rfl) ?_
  refine JL.go trivial (RX.movev (v := Value.int _ _) rfl) ?_
  refine JL.go trivial (RX.add rfl rfl (wi (n := i + j) (by omega) (by omega))) ?_
  refine JL.go trivial (RX.loadS H hs rfl (j := 0) rfl (v := .int .i64 ((n : Nat) : Int)) rfl one3) ?_
  refine JL.go trivial (RX.rem rfl rfl (by omega) rem_nat) ?_
  refine JL.go trivial (RX.assignv (v := Value.int _ _) rfl) ?_
  refine JL.nil ?_
  refine J.ret1 (v := Value.int _ _) Tryz.func24 rfl rfl ?_
  exact ⟨_, rfl, rfl, H⟩
theorem linear1_b {w0 w : World} {F : List Seg} {E : Nat → Value} {Q : Nat → Addr} (H : Hp w0 w F) (hE : Errs F E Q) {pa pb : Option Addr} {ca cb : Nat} (ha : SlAt F pa (i64sV [1, 2])) (hb : SlAt F pb (i64sV [3, 4, 5])) : Ret Tryz.prog 12 [.slice pa 2 ca, .slice pb 3 cb] w fun v w' => ∃ b, v = .tuple #[.slice (some ⟨b, 0, none⟩) 4 4, .nilIface] ∧ Hp w0 w' ([(b, cel (i64sV [3, 10, 13, 10]) 2)] :: F) := by
  refine Calls.of_J (n := 34) Tryz.func12 rfl rfl rfl ?_
  refine J.seq ?_
  have hB : ∀ i : Fin 2, ∀ j : Fin 4, ∀ k : Fin 4, (accI ((fun i j => i + j) i.val) (prodE [1, 2] [3, 4, 5] i.val) (accO (fun i j => i + j) (prodE [1, 2] [3, 4, 5]) 3 i.val) j.val k.val).natAbs < 1267650600228229401496703205376 := by decide
  have hI : ∀ k : Fin 4, i64in (accO (fun i j => i + j) (prodE [1, 2] [3, 4, 5]) 3 2 k.val) := by decide
  refine J.region ?_
  refine JL.go trivial (RX.assign) ?_
  refine JL.go trivial (RX.assign) ?_
  refine JL.nil ?_
  refine J.seq ?_
  refine J.seq ?_
  refine J.region ?_
  refine JL.go trivial (RX.movev (v := Value.slice _ _ _) rfl) ?_
  refine JL.go trivial (RX.len_slice rfl (by rw [sl35]; rfl) rfl) ?_
  refine JL.go trivial (RX.eq rfl rfl) ?_
  refine JL.go trivial (RX.movev (v := Value.bool _) rfl) ?_
  refine JL.go ⟨_, rfl, rfl⟩ (RX.movev (v := Value.slice _ _ _) rfl) ?_
  refine JL.go ⟨_, rfl, rfl⟩ (RX.len_slice rfl (by rw [sl35]; rfl) rfl) ?_
  refine JL.go ⟨_, rfl, rfl⟩ (RX.eq rfl rfl) ?_
  refine JL.go trivial (RX.pick_f rfl rfl) ?_
  refine JL.go trivial (RX.movev (v := Value.bool _) rfl) ?_
  refine JL.go ⟨_, rfl, rfl⟩ (RX.movev (v := Value.slice _ _ _) rfl) ?_
  refine JL.go ⟨_, rfl, rfl⟩ (RX.len_slice rfl (by rw [sl35]; rfl) rfl) ?_
  refine JL.go ⟨_, rfl, rfl⟩ (RX.movev (v := Value.slice _ _ _) rfl) ?_
  refine JL.go ⟨_, rfl, rfl⟩ (RX.len_slice rfl (by rw [sl35]; rfl) rfl) ?_
  refine JL.go ⟨_, rfl, rfl⟩ (RX.quo rfl rfl (by decide) (r := 349525) (by decide)) ?_
  refine JL.go ⟨_, rfl, rfl⟩ (RX.gt rfl rfl) ?_
  refine JL.go trivial (RX.pick_f rfl rfl) ?_
  refine JL.nil ?_
  refine J.cond_f rfl (decide_eq_false (by decide)) ?_
  refine J.skip ?_
  refine J.seq ?_
  refine J.region ?_
  refine JL.go trivial (RX.movev (v := Value.slice _ _ _) rfl) ?_
  refine JL.go trivial (RX.movev (v := Value.slice _ _ _) rfl) ?_
  refine JL.go trivial (RX.movev (v := Value.slice _ _ _) rfl) ?_
  refine JL.go trivial (RX.len_slice rfl (by rw [sl35]; rfl) rfl) ?_
  refine JL.go trivial (RX.movev (v := Value.slice _ _ _) rfl) ?_
  refine JL.go trivial (RX.len_slice rfl (by rw [sl35]; rfl) rfl) ?_
  refine JL.go trivial (RX.add rfl rfl (w_i64 (r := 5) (by decide) (by decide) (by decide))) ?_
  refine JL.go trivial (RX.sub rfl rfl (w_i64 (r := 4) (by decide) (by decide) (by decide))) ?_
  refine JL.does trivial (EX.call rfl cl22 rfl ((gather_b (us := [1, 2]) (vs := [3, 4, 5]) (n := 4) (kf := fun i j => i + j) H hE ha hb (by decide) (by decide) (by decide) (by decide) (by decide) cl23 (by intro i j hi hj; simp at hi hj ⊢; omega) (fun i j w L hi hj H _ => LinAt_b H (by simp at hi hj; omega)) (fun i j k hi hj hk => hB ⟨i, hi⟩ ⟨j, by simp at hj ⊢; omega⟩ ⟨k, hk⟩) (fun k hk => hI ⟨k, hk⟩)))) ?_
  rintro _ w ⟨b, rfl, H⟩
  replace H : Hp w0 w ([(b, cel (i64sV [3, 10, 13, 10]) 2)] :: F) := by rw [show ([3, 10, 13, 10] : List Int) = gatL (fun i j => i + j) [1, 2] [3, 4, 5] 4 by decide]; exact H
  refine JL.go trivial (RX.extract rfl rfl) ?_
  refine JL.go trivial (RX.extract rfl rfl) ?_
  refine JL.go trivial (RX.assignv (v := Value.slice _ _ _) rfl) ?_
  refine JL.go trivial (RX.assign) ?_
  refine JL.nil ?_
  refine J.ret2 (v := Value.slice _ _ _) Tryz.func12 rfl rfl rfl ?_
  exact ⟨_, rfl, b, rfl, H⟩
theorem cyclic1_b {w0 w : World} {F : List Seg} {E : Nat → Value} {Q : Nat → Addr} (H : Hp w0 w F) (hE : Errs F E Q) {pa pb : Option Addr} {ca cb : Nat} (ha : SlAt F pa (i64sV [1, 2, 3])) (hb : SlAt F pb (i64sV [4, 5, 6])) : Ret Tryz.prog 13 [.slice pa 3 ca, .slice pb 3 cb] w fun v w' => ∃ b, v = .tuple #[.slice (some ⟨b, 0, none⟩) 3 3, .nilIface] ∧ Hp w0 w' ([(b, cel (i64sV [31, 31, 28]) 2)] :: F) := by
  refine Calls.of_J (n := 29) Tryz.func13 rfl rfl rfl ?_
  refine J.seq ?_
  have hB : ∀ i : Fin 3, ∀ j : Fin 4, ∀ k : Fin 3, (accI ((fun i j => (i + j) % 3) i.val) (prodE [1, 2, 3] [4, 5, 6] i.val) (accO (fun i j => (i + j) % 3) (prodE [1, 2, 3] [4, 5, 6]) 3 i.val) j.val k.val).natAbs < 1267650600228229401496703205376 := by decide
  have hI : ∀ k : Fin 3, i64in (accO (fun i j => (i + j) % 3) (prodE [1, 2, 3] [4, 5, 6]) 3 3 k.val) := by decide
  refine J.region ?_
  refine JL.go trivial (RX.assign) ?_
  refine JL.go trivial (RX.assign) ?_
  refine JL.nil ?_
  refine J.seq ?_
  refine J.region ?_
  refine JL.go trivial (RX.movev (v := Value.slice _ _ _) rfl) ?_
  refine JL.go trivial (RX.len_slice rfl (by rw [sl35]; rfl) rfl) ?_
  refine JL.does trivial (EX.alloc H zr3 rfl) ?_
  rintro _ w ⟨b1, rfl, H⟩
  refine JL.does trivial (by first | exact EX.store (v := Value.int _ _) H rfl rfl (i := 0) rfl rfl (by simp) sz3 rfl rfl) ?_
  rintro _ w H
  refine JL.nil ?_
  refine J.seq ?_
  refine J.seq ?_
  refine J.region ?_
  refine JL.go trivial (by first | exact RX.load H rfl (i := 0) rfl rfl one3) ?_
  refine JL.go trivial (RX.eq rfl rfl) ?_
  refine JL.go trivial (RX.movev (v := Value.bool _) rfl) ?_
  refine JL.go ⟨_, rfl, rfl⟩ (by first | exact RX.load H rfl (i := 0) rfl rfl one3) ?_
  refine JL.go ⟨_, rfl, rfl⟩ (RX.gt rfl rfl) ?_
  refine JL.go trivial (RX.pick_f rfl rfl) ?_
  refine JL.go trivial (RX.movev (v := Value.bool _) rfl) ?_
  refine JL.go ⟨_, rfl, rfl⟩ (RX.movev (v := Value.slice _ _ _) rfl) ?_
  refine JL.go ⟨_, rfl, rfl⟩ (RX.len_slice rfl (by rw [sl35]; rfl) rfl) ?_
  refine JL.go ⟨_, rfl, rfl⟩ (by first | exact RX.load H rfl (i := 0) rfl rfl one3) ?_
  refine JL.go ⟨_, rfl, rfl⟩ (RX.ne rfl rfl) ?_
  refine JL.go trivial (RX.pick_f rfl rfl) ?_
  refine JL.nil ?_
  refine J.cond_f rfl (decide_eq_false (by decide)) ?_
  refine J.skip ?_
  refine J.seq ?_
  refine J.region ?_
  refine JL.go trivial (RX.movev (v := Value.slice _ _ _) rfl) ?_
  refine JL.go trivial (RX.movev (v := Value.slice _ _ _) rfl) ?_
  refine JL.go trivial (by first | exact RX.load H rfl (i := 0) rfl rfl one3) ?_
  refine JL.go trivial (RX.makeFunc rfl rfl) ?_
  refine JL.does trivial (EX.call rfl cl22 rfl ((gather_b (us := [1, 2, 3]) (vs := [4, 5, 6]) (n := 3) (kf := fun i j => (i + j) % 3) H hE.cons ha.cons hb.cons (by decide) (by decide) (by decide) (by decide) (by decide) cl24 (by intro i j hi hj; simp at hi hj ⊢; omega) (fun i j w L hi hj H hk => CycAt_b (n := 3) (b := b1) H (hk _ _ (SlAt.here rfl)) (by decide) (by simp at hi hj; omega)) (fun i j k hi hj hk => hB ⟨i, hi⟩ ⟨j, by simp at hj ⊢; omega⟩ ⟨k, hk⟩) (fun k hk => hI ⟨k, hk⟩)))) ?_
  rintro _ w ⟨b, rfl, H⟩
  replace H : Hp w0 w ([(b, cel (i64sV [31, 31, 28]) 2)] :: F) := by rw [show ([31, 31, 28] : List Int) = gatL (fun i j => (i + j) % 3) [1, 2, 3] [4, 5, 6] 3 by decide]; exact (H.pull 1 rfl).drop
  refine JL.go trivial (RX.extract rfl rfl) ?_
  refine JL.go trivial (RX.extract rfl rfl) ?_
  refine JL.go trivial (RX.assignv (v := Value.slice _ _ _) rfl) ?_
  refine JL.go trivial (RX.assign) ?_
  refine JL.nil ?_
  refine J.ret2 (v := Value.slice _ _ _) Tryz.func13 rfl rfl rfl ?_
  exact ⟨_, rfl, b, rfl, H⟩
end Go.Proofs.YtfdghjlfplhpjaaGreatDoor
