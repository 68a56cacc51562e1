/- The iterators of the library, and those who range over them. -/
import Derived.Test.YtmppcnbkfjeabaaDoorLa
namespace Go.Proofs.YtmppcnbkfjeabaaDoor
open Go Go.Eng
set_option maxRecDepth 100000
set_option linter.unusedVariables false
set_option linter.unusedSimpArgs false
theorem one22 : oneOf Tryd.prog 22 = true := by kernel_rfl

theorem elI : Elem Tryd.prog 22 3 1 8 := Elem.of (by kernel_rfl)
theorem intsV_app (a b : List Int) : intsV (a ++ b) = intsV a ++ intsV b := by simp [intsV]
theorem intsV_cell (l : List Int) : ∀ v ∈ intsV l, isCell v = true := by
  intro v hv; obtain ⟨b, _, rfl⟩ := List.mem_map.1 hv; rfl
theorem take_succ_get {α : Type} {l : List α} {i : Nat} {x : α} (h : l[i]? = some x) : l.take (i + 1) = l.take i ++ [x] := by
  rw [List.take_add_one, h]; rfl
/-- What a collecting loop keeps: its record, its block, the box of the list, the list. -/
def Acc (l r b4 : Nat) (o : Obj) (xs : List Int) (G : List Seg) : Prop := ∃ (p : Option Addr) (c : Nat) (sl : Seg), G = [[(l, o)], [(r, Obj.deferred (some []))], [(b4, cel [.slice p xs.length c] 22)], sl] ∧ OwnSl 3 1 p xs.length c (intsV xs) sl

theorem values1_b {w0 w : World} {X F : List Seg} {p : Option Addr} {c bs l N : Nat} {ys : List Int} {A B : List Int → List Seg → Prop} {G : List Seg} (hY : YI Tryd.prog l A B w0 N F) (hb : SlAt X (some ⟨bs, 0, none⟩) [.slice p ys.length c]) (hs : SlAt X p (intsV ys)) (hl : ys.length ≤ 4611686018427387904) (hA : A [] G) (hN : ys.length ≤ N) (H : Hp w0 w (X ++ (G ++ F))) : Ret Tryd.prog 47 [yV l, .pointer (some ⟨bs, 0, none⟩)] w fun _ w' => (∃ G', A ys G' ∧ Hp w0 w' (X ++ (G' ++ F))) ∨ ∃ i G', i < ys.length ∧ B (ys.take (i + 1)) G' ∧ Hp w0 w' (X ++ (G' ++ F)) := by
  refine Calls.of_J (n := 16) Tryd.func47 rfl rfl rfl ?_
  refine J.seq ?_
  refine J.region ?_
  refine JL.go trivial (RX.loadS H (slAp hb) rfl (j := 0) rfl rfl one22) ?_
  refine JL.go trivial (RX.len_slice rfl (by rw [sl22]; rfl) rfl) ?_
  refine JL.go trivial (RX.move) ?_
  refine JL.nil ?_
  refine J.block ?_
  refine J.loop (ι := Nat × List Seg) (S := fun z => [(7, .int .i64 (z.1 : Nat))]) (Φ := fun z w => z.1 ≤ ys.length ∧ A (ys.take z.1) z.2 ∧ Hp w0 w (X ++ (z.2 ++ F))) (μ := fun z => ys.length - z.1) (C := [(0, _), (5, _), (6, _)]) (0, G) ⟨rfl, rfl, rfl, trivial⟩ ⟨rfl, trivial⟩ ?_ ?_
  · exact ⟨by simp, by simpa using hA, H⟩
  clear H
  rintro ⟨i, G1⟩ ρ w ⟨hi, hA1, H⟩ IH
  simp only at hi hA1 H
  dsimp only
  refine J.seq ?_
  refine J.region ?_
  refine JL.go trivial (RX.lt rfl rfl) ?_
  refine JL.nil ?_
  refine J.seq ?_
  refine J.cond_d rfl (fun hlt => ?_) (fun hlt => ?_)
  · skip
    obtain ⟨x, hx⟩ : ∃ x, ys[i]? = some x := ⟨_, List.getElem?_eq_getElem (by omega)⟩
    obtain ⟨pb, po, rfl, hpp⟩ := hs.some (by rw [intsV_len]; omega)
    refine J.skip ?_
    refine J.seq ?_
    refine J.block ?_
    refine J.seq ?_
    refine J.region ?_
    refine JL.go trivial (RX.indexAddr rfl rfl sl22 (by omega) (by omega) (o' := po + i) (by omega)) ?_
    refine JL.go trivial (RX.loadS H (slAp hs) rfl (j := i) rfl (intsV_get hx) one3) ?_
    refine JL.go trivial (RX.assignv (v := Value.int _ _) rfl) ?_
    refine JL.nil ?_
    refine J.seq ?_
    refine J.regionY ?_
    refine FL.go fair_wide rfl trivial (RX.movev (v := Value.func _ _ _) rfl) ?_
    refine FL.go fair_wide rfl trivial (RX.movev (v := Value.int _ _) rfl) ?_
    refine FL.doesIn fair_wide rfl trivial (EX.yield rfl rfl ((hY _ _ X _ x hA1 (by rw [List.length_take]; omega) H))) ?_
    rintro _ w ⟨q, G2, rfl, hq1, hq2, H⟩
    rw [← take_succ_get hx] at hq1 hq2
    refine FL.go fair_wide rfl trivial (RX.not rfl) ?_
    refine FL.nilJ ?_
    refine J.cond rfl (fun hn => ?_) (fun hn => ?_)
    · skip
      refine J.ret0 Tryd.func47 rfl ?_
      exact ⟨_, rfl, .inr ⟨i, G2, by omega, hq2 (by simpa using hn), H⟩⟩
    · skip
      refine J.skip ?_
      refine J.inBlock ?_
      refine J.region ?_
      refine JL.go trivial (RX.add rfl rfl (w_i64 (r := ((i + 1 : Nat) : Int)) (by omega) (by omega) (by omega))) ?_
      refine JL.go trivial (RX.movev (v := Value.int _ _) rfl) ?_
      refine JL.nil ?_
      exact IH (i + 1, G2) _ _ (by simp only; omega) ⟨rfl, rfl, rfl, trivial⟩ ⟨rfl, trivial⟩ ⟨by simp only; omega, hq1 (by simpa using hn), H⟩
  · skip
    have hil : i = ys.length := by omega
    subst hil
    rw [List.take_length] at hA1
    refine J.exit rfl ?_
    refine J.end0 Tryd.func47 rfl ?_
    exact ⟨_, rfl, .inl ⟨G1, hA1, H⟩⟩
theorem keys1_b {w0 : World} {X F : List Seg} {c bm mb N : Nat} {es : List MEn} (hb : SlAt X (some ⟨bm, 0, none⟩) [.map (some mb)]) (hm : (mb, mapO es c) ∈ X.flatten) (hbn : ∀ e ∈ es, e.born < c) (hnd : (es.map MEn.born).Nodup) (hN : es.length ≤ N) {l : Nat} {A : List Int → List Seg → Prop} {G : List Seg} {w : World} (hY : YI Tryd.prog l A never w0 N F) (hA : A [] G) (H : Hp w0 w (X ++ (G ++ F))) : Ret Tryd.prog 50 [yV l, .pointer (some ⟨bm, 0, none⟩)] w fun _ w' => ∃ xs G', xs.Perm (es.map MEn.key) ∧ A xs G' ∧ Hp w0 w' (X ++ (G' ++ F)) := by
  refine Calls.of_J (n := 14) Tryd.func50 rfl rfl rfl ?_
  refine J.seq ?_
  have hmx : ∀ Y : List Seg, (mb, mapO es c) ∈ (X ++ Y).flatten := fun Y => by rw [List.flatten_append]; exact List.mem_append_left _ hm
  refine J.region ?_
  refine JL.go trivial (RX.loadS H (slAp hb) rfl (j := 0) rfl rfl one57) ?_
  refine JL.does trivial (EX.rangeF H rfl (hmx _) mapT) ?_
  rintro _ w ⟨r, rfl, H⟩
  refine JL.nil ?_
  refine J.block ?_
  refine J.loop (ι := List MEn × List MEn × List Seg) (S := fun z => []) (Φ := fun z w => (z.1 ++ z.2.1).Perm es ∧ A (z.1.map MEn.key) z.2.2 ∧ Hp w0 w ([(r, iterO mb c (z.1))] :: (X ++ (z.2.2 ++ F)))) (μ := fun z => z.2.1.length) (C := [(0, _), (5, _)]) ([], es, G) ⟨rfl, rfl, trivial⟩ trivial ?_ ?_
  · exact ⟨List.Perm.refl _, hA, H⟩
  clear H
  rintro ⟨vis, left, G1⟩ ρ w ⟨hp, hA1, H⟩ IH
  simp only at hp hA1 H
  dsimp only
  refine J.seq ?_
  refine J.region ?_
  refine JL.does trivial (EX.nextF H rfl (i := 0) rfl (by rw [List.flatten_cons]; exact List.mem_append_right _ (hmx _)) hbn hnd hp) ?_
  rintro _ w ⟨q, vs, vis2, rfl, hq, H⟩
  refine JL.go trivial (RX.extract (v := Value.bool q) rfl rfl) ?_
  refine JL.nil ?_
  refine J.seq ?_
  refine J.cond rfl (fun hq1 => ?_) (fun hq1 => ?_)
  · skip
    obtain ⟨h1, _⟩ | ⟨_, e, left2, hpe, rfl⟩ := hq
    · rw [h1] at hq1; cases hq1
    have he : e ∈ es := hp.subset (List.mem_append_right _ (hpe.symm.subset List.mem_cons_self))
    have hlen := hp.length_eq
    have hle := hpe.length_eq
    rw [List.length_append] at hlen
    rw [List.length_cons] at hle
    replace H : Hp w0 w ([(r, iterO mb c (vis ++ [e]))] :: (X ++ (G1 ++ F))) := H
    refine J.skip ?_
    refine J.block ?_
    refine J.seq ?_
    refine J.region ?_
    refine JL.go trivial (RX.entryF H rfl (i := 0) rfl (by rw [List.flatten_cons]; exact List.mem_append_right _ (hmx _)) hnd he) ?_
    refine JL.go trivial (RX.extract rfl rfl) ?_
    refine JL.go trivial (RX.assignv (v := Value.int _ _) rfl) ?_
    refine JL.nil ?_
    refine J.seq ?_
    refine J.regionY ?_
    refine FL.go fair_wide rfl trivial (RX.movev (v := Value.func _ _ _) rfl) ?_
    refine FL.go fair_wide rfl trivial (RX.movev (v := Value.int _ _) rfl) ?_
    refine FL.doesIn fair_wide rfl trivial (EX.yield rfl rfl ((hY (vis.map MEn.key) G1 ([(r, iterO mb c (vis ++ [e]))] :: X) _ e.key hA1 (by rw [List.length_map]; omega) H))) ?_
    rintro _ w ⟨q2, G2, rfl, hq2, hq3, H⟩
    refine FL.go fair_wide rfl trivial (RX.not rfl) ?_
    refine FL.nilJ ?_
    refine J.cond rfl (fun hn => ?_) (fun hn => ?_)
    · skip
      exfalso
      exact hq3 (by simpa using hn)
    · skip
      refine J.skip ?_
      refine J.inBlock ?_
      refine IH (vis ++ [e], left2, G2) _ _ (by simp only; omega) ⟨rfl, rfl, trivial⟩ trivial ⟨?_, ?_, H⟩
      · refine List.Perm.trans ?_ hp
        rw [List.append_assoc]
        exact (hpe.symm).append_left vis
      · simp only [List.map_append, List.map_cons, List.map_nil]
        exact hq2 (by simpa using hn)
  · skip
    obtain ⟨_, rfl, rfl⟩ | ⟨h1, _⟩ := hq
    rotate_left
    · rw [h1] at hq1; cases hq1
    refine J.exit rfl ?_
    refine J.end0 Tryd.func50 rfl ?_
    rw [List.append_nil] at hp
    exact ⟨_, rfl, vis2.map MEn.key, G1, hp.map _, hA1, H.drop⟩
end Go.Proofs.YtmppcnbkfjeabaaDoor
