/- Numbers of two words in math/big: sums and differences. -/
import Derived.Test.YtfpphoapknecfaaGreatDoorBesafterBg
namespace Go.Proofs.YtfpphoapknecfaaGreatDoorBesafter
open Go Go.Eng
set_option maxRecDepth 100000
set_option linter.unusedVariables false
set_option linter.unusedSimpArgs false
theorem cl57 : callable Tryz.prog 57 = true := by kernel_rfl
theorem ud50 : Tryz.prog.underlying 50 = some (.slice 63) := by kernel_rfl
theorem ud87 : Tryz.prog.underlying 87 = some (.pointer 63) := by kernel_rfl
theorem sl_next {L : List Seg} {q b o : Nat} {T : TypeId} {z v : Value} {t : List Value} {x y : Value} (h : SlAt ([(q, cel (z :: t) T)] :: L) (some ⟨b, o, none⟩) [x, y]) : SlAt ([(q, cel (v :: t) T)] :: L) (some ⟨b, o + 1, none⟩) [y] := by
  rcases h with h | ⟨b', off, C, T', fz, hp, hm, hc⟩
  · cases h
  · cases hp
    have h1 := hc 1 (by simp)
    rw [List.flatten_cons, List.mem_append] at hm
    rcases hm with hm | hm
    · simp only [List.mem_singleton, Prod.mk.injEq, cel, Obj.cells.injEq] at hm
      obtain ⟨rfl, rfl, rfl, rfl⟩ := hm
      refine .inr ⟨b, o + 1, (v :: t).toArray, _, _, rfl, List.mem_append_left _ (List.mem_singleton.2 rfl), fun j hj => ?_⟩
      obtain rfl : j = 0 := by simpa using hj
      simpa using h1
    · refine .inr ⟨b, o + 1, C, T', fz, rfl, List.mem_append_right _ hm, fun j hj => ?_⟩
      obtain rfl : j = 0 := by simpa using hj
      simpa using h1
/-- Words without the noughts at their end. -/
def Nm (ws : List Nat) (i : Nat) : Prop := i ≤ ws.length ∧ (∀ j, i ≤ j → j < ws.length → ws[j]? = some 0) ∧ (i = 0 ∨ ∃ x, ws[i - 1]? = some x ∧ x ≠ 0)
theorem nm1 {a i : Nat} (h : Nm [a] i) (ha : a < 18446744073709551616) : i = (wd a).length ∧ [a].take i = wd a := by
  obtain ⟨h1, h2, h3⟩ := h
  have hi : i = 0 ∨ i = 1 := by simp at h1; omega
  rcases hi with rfl | rfl
  · have := h2 0 (by omega) (by simp)
    simp at this; subst this
    exact ⟨rfl, rfl⟩
  · rcases h3 with h3 | ⟨x, h3, h4⟩
    · omega
    · simp at h3; subst h3
      rw [wd_pos (by omega) ha]; exact ⟨rfl, rfl⟩
theorem nm2 {lo hi i : Nat} (h : Nm [lo, hi] i) (h0 : lo < 18446744073709551616) (h1 : hi < 18446744073709551616) : i = (wd (lo + hi * 18446744073709551616)).length ∧ [lo, hi].take i = wd (lo + hi * 18446744073709551616) := by
  obtain ⟨g1, g2, g3⟩ := h
  have hi' : i = 0 ∨ i = 1 ∨ i = 2 := by simp at g1; omega
  rcases hi' with rfl | rfl | rfl
  · have e0 := g2 0 (by omega) (by simp)
    have e1 := g2 1 (by omega) (by simp)
    simp at e0 e1; subst e0 e1
    exact ⟨rfl, rfl⟩
  · have e1 := g2 1 (by omega) (by simp)
    simp at e1; subst e1
    rcases g3 with g3 | ⟨x, g3, g4⟩
    · omega
    · simp at g3; subst g3
      rw [Nat.zero_mul, Nat.add_zero, wd_pos (by omega) h0]; exact ⟨rfl, rfl⟩
  · rcases g3 with g3 | ⟨x, g3, g4⟩
    · omega
    · simp at g3; subst g3
      have e1 : (lo + hi * 18446744073709551616) % 18446744073709551616 = lo := by omega
      have e2 : (lo + hi * 18446744073709551616) / 18446744073709551616 = hi := by omega
      rw [wd_two (by omega), e1, e2]; exact ⟨rfl, rfl⟩
theorem nm3 {lo hi i : Nat} (h : Nm [lo, hi, 0] i) (h0 : lo < 18446744073709551616) (h1 : hi < 18446744073709551616) : i = (wd (lo + hi * 18446744073709551616)).length ∧ [lo, hi, 0].take i = wd (lo + hi * 18446744073709551616) := by
  obtain ⟨g1, g2, g3⟩ := h
  have hi3 : i ≤ 2 := by
    rcases g3 with g3 | ⟨x, g3, g4⟩
    · omega
    · have hi : i ≠ 3 := by
        rintro rfl
        simp at g3; exact g4 g3.symm
      simp at g1; omega
  have h' : Nm [lo, hi] i := by
    refine ⟨by simpa using hi3, fun j h1 h2 => ?_, ?_⟩
    · have hj : j < 2 := by simpa using h2
      have := g2 j h1 (by simp; omega)
      have hj2 : j = 0 ∨ j = 1 := by omega
      rcases hj2 with rfl | rfl <;> simpa using this
    · rcases g3 with g3 | ⟨x, g3, g4⟩
      · exact .inl g3
      · have hj2 : i = 0 ∨ i = 1 ∨ i = 2 := by omega
        rcases hj2 with rfl | rfl | rfl
        · exact .inl rfl
        · exact .inr ⟨x, by simpa using g3, g4⟩
        · exact .inr ⟨x, by simpa using g3, g4⟩
  obtain ⟨e1, e2⟩ := nm2 h' h0 h1
  refine ⟨e1, ?_⟩
  rw [← e2]
  have hj2 : i = 0 ∨ i = 1 ∨ i = 2 := by omega
  rcases hj2 with rfl | rfl | rfl <;> rfl
theorem ownW_nm {g c a i : Nat} {ws : List Nat} {l : List Value} (h : i = (wd a).length ∧ ws.take i = wd a) (hw : i ≤ ws.length) (hl : (u64sV ws ++ l).length = c) : OwnW (some ⟨g, 0, none⟩) (wd a) c [(g, cel (u64sV ws ++ l) 63)] := by
  obtain ⟨h1, h2⟩ := h
  refine ownW_row hl ?_ ?_
  · rw [← h1]; simp [u64sV] at hl; omega
  · rw [← h1, List.take_append_of_le_length (by rw [u64sV_len]; exact hw), ← h2]
    simp [u64sV, List.map_take]
theorem RX.ptr_neq {P : Program} {w w0 : World} {L : List Seg} {ρ : Operand → Value} {d : Option Tmp} {x y : Operand} {ty : TypeId} {pos : String} {af : Array Edge} {g : Option (Nat × Bool)} {t t' u k a b o o' : Nat} {ca cb : Array Value} {ta tb : TypeId} (H : Hp w0 w L) (hx : ρ x = .pointer (some ⟨a, o, none⟩)) (hy : ρ y = .pointer (some ⟨b, o', none⟩)) (h : P.underlying t = some (.pointer u)) (hu : szOf P u = some (k + 1))
    (hal : a = b → o = o') (ha : (a, Obj.cells ca ta (0, 0)) ∈ L.flatten) (hb : (b, Obj.cells cb tb (0, 0)) ∈ L.flatten) : Runs P ρ ⟨d, .binOp .neq t x y t', ty, pos, af, g⟩ w (.bool (decide (¬ a = b))) := by
  obtain ⟨j, hj, hjs⟩ := Option.map_eq_some_iff.1 hu
  by_cases e : a = b
  · subst e
    obtain rfl := hal rfl
    have hr := run_eql_ptr_same (P := P) w ⟨a, o, none⟩ h hj
    unfold Runs
    simp [binOp] at hr
    simp [execOp, hx, hy, eqGuard_at_pointer, binOp]
    generalize Sem.run P (Op.equal t (Value.pointer (some { block := a, off := o })) (Value.pointer (some { block := a, off := o }))) w = R at hr ⊢
    cases R <;> simp_all
  · have hr := run_eql_ptr_other (P := P) w (a := ⟨a, o, none⟩) (b := ⟨b, o', none⟩) h hj (by rw [hjs]; omega) (by intro e2; cases e2; exact e rfl) (H.mem _ ha) (H.mem _ hb)
    unfold Runs
    simp [binOp] at hr
    simp [execOp, hx, hy, eqGuard_at_pointer, binOp]
    generalize Sem.run P (Op.equal t (Value.pointer (some { block := a, off := o })) (Value.pointer (some { block := b, off := o' }))) w = R at hr ⊢
    cases R <;> simp_all
theorem EX.copy0 {P : Program} {w w0 : World} {L : List Seg} {ρ : Operand → Value} {dd : Option Tmp} {x y : Operand} {ty : TypeId} {pos : String} {af : Array Edge} {g : Option (Nat × Bool)} {t t' e n1 c1 n2 c2 : Nat} {d a : Option Addr} (H : Hp w0 w L) (hx : ρ x = .slice d n1 c1) (hy : ρ y = .slice a n2 c2) (hu : P.underlying t = some (.slice e)) (hsz : (P.info? e).map (·.size) = some 1) (hn : n2 = 0) :
    Does P ρ ⟨dd, .call { callee := .builtin .copy, args := #[x, y], argTypes := #[t, t'] }, ty, pos, af, g⟩ w fun u w' => u = .int .i64 0 ∧ Hp w0 w' L := by
  have hrun := run_copy_none (P := P) w t t' ty e d a n1 c1 n2 c2 hu hsz (by rw [hn]; exact Nat.zero_min _)
  refine Does.of_run (v := goInt 0) (w' := w) ?_ ⟨rfl, H⟩
  simp [execOp, resolve, invoke, builtin, hx, hy] at hrun ⊢
  simp [hrun]
theorem behind_at {b o c l : Nat} (h : c ≠ l) : behind (some ⟨b, o, none⟩) c l 1 = some ⟨b, o + l, none⟩ := by
  simp [behind, h]
theorem ownW_some {q0 : Option Addr} {ws : List Nat} {c0 : Nat} {s0 : Seg} (ho : OwnW q0 ws c0 s0) (hw : 0 < ws.length) : ∃ g l, q0 = some ⟨g, 0, none⟩ ∧ s0 = [(g, cel l 63)] ∧ ws.length ≤ c0 ∧ l.length = c0 ∧ l.take ws.length = u64sV ws := by
  obtain ⟨_, ⟨_, h, _, _⟩ | ⟨g, l, h1, h2, h3, h4, h5⟩⟩ := ho
  · omega
  · rw [u64sV_len] at h5
    exact ⟨g, l, h1, h2, h3, by rw [h4, Nat.mul_one], h5⟩
theorem OwnW.none_ {q0 : Option Addr} {ws : List Nat} {c0 : Nat} {s0 : Seg} (h : OwnW q0 ws c0 s0) : OwnW q0 [] c0 s0 := by
  obtain ⟨_, ⟨rfl, h2, rfl, rfl⟩ | ⟨g, l, rfl, rfl, hle, hl, _⟩⟩ := h
  · exact OwnSl.nil
  · exact ⟨by simp [u64sV], .inr ⟨g, l, rfl, rfl, by simp, hl, by simp [u64sV]⟩⟩
/-- Room for a number of one word more than the receiver's own two: the old row or a new one. -/
theorem make_own {w0 w : World} {L : List Seg} {g c0 n m : Nat} {l0 : List Value} (H : Hp w0 w ([(g, cel l0 63)] :: L)) (hl0 : l0.length = c0) (hn1 : 1 ≤ n) (hn2 : n ≤ 3) : Ret Tryz.prog 50 [.slice (some ⟨g, 0, none⟩) m c0, .int .i64 ((n : Nat) : Int)] w fun v w' =>
    ∃ q l c G, v = .slice (some ⟨q, 0, none⟩) n c ∧ n ≤ c ∧ l.length = c ∧ ((q = g ∧ l = l0 ∧ G = []) ∨ (q ≠ g ∧ G = [[(g, cel l0 63)]])) ∧ Hp w0 w' ([(q, cel l 63)] :: (G ++ L)) := by
  by_cases hc : n ≤ c0
  · refine Ret.mono (make_old H hc) ?_
    rintro v w' ⟨rfl, H⟩
    exact ⟨g, l0, c0, [], rfl, hc, hl0, .inl ⟨rfl, rfl, rfl⟩, H⟩
  · refine Ret.mono (make_new H (by omega) hn1 hn2) ?_
    rintro v w' ⟨b, c, rfl, hle, H⟩
    refine ⟨b, _, c, [[(g, cel l0 63)]], rfl, hle, fnL_len, .inr ⟨?_, rfl⟩, H⟩
    have := H.nd
    simp at this
    exact this.1.1

set_option maxHeartbeats 1600000 in
theorem norm_b {w0 w : World} {F : List Seg} (H : Hp w0 w F) {q c : Nat} {ws : List Nat} (hs : SlAt F (some ⟨q, 0, none⟩) (u64sV ws)) (hc : ws.length ≤ c) (hc1 : 1 ≤ c) (hn : ws.length ≤ 9) : Ret Tryz.prog 53 [.slice (some ⟨q, 0, none⟩) ws.length c] w fun v w' => ∃ i, v = .slice (some ⟨q, 0, none⟩) i c ∧ Nm ws i ∧ Hp w0 w' F := by
  refine Calls.of_J (n := 21) Tryz.func53 rfl rfl rfl ?_
  refine J.seq ?_
  refine J.region ?_
  refine JL.go trivial (RX.assign) ?_
  refine JL.nil ?_
  refine J.seq ?_
  refine J.region ?_
  refine JL.go trivial (RX.movev (v := Value.slice _ _ _) rfl) ?_
  refine JL.go trivial (RX.len_slice rfl (by rw [sl51]; rfl) rfl) ?_
  refine JL.go trivial (RX.assignv (v := Value.int _ _) rfl) ?_
  refine JL.nil ?_
  refine J.seq ?_
  refine J.block ?_
  refine J.loop (ι := Nat) (S := fun i => [(3, .int .i64 ((i : Nat) : Int))]) (Φ := fun i w => i ≤ ws.length ∧ (∀ j, i ≤ j → j < ws.length → ws[j]? = some 0) ∧ Hp w0 w F) (μ := fun i => i) (C := [(0, _)]) ws.length ⟨rfl, trivial⟩ ⟨rfl, trivial⟩ ?_ ?_
  · exact ⟨Nat.le_refl _, fun j h1 h2 => by omega, H⟩
  clear H
  rintro i ρ w ⟨hi, hz, H⟩ IH
  refine J.seq ?_
  refine J.seq ?_
  refine J.region ?_
  refine JL.go trivial (RX.movev (v := Value.int _ _) rfl) ?_
  refine JL.go trivial (RX.gt rfl rfl) ?_
  refine JL.go trivial (RX.movev (v := Value.bool _) rfl) ?_
  refine JL.splitS 8 rfl (fun hg => ?_) (fun hg => ?_)
  · skip
    first | have hgp := of_decide_eq_true hg | skip
    have hg1 := of_decide_eq_true hg
    obtain ⟨x, hx⟩ : ∃ x, ws[i - 1]? = some x := ⟨_, List.getElem?_eq_getElem (by omega)⟩
    refine JL.go ⟨_, rfl, hg⟩ (RX.movev (v := Value.slice _ _ _) rfl) ?_
    refine JL.go ⟨_, rfl, hg⟩ (RX.movev (v := Value.int _ _) rfl) ?_
    refine JL.go ⟨_, rfl, hg⟩ (RX.sub rfl rfl (wi (n := i - 1) (by omega) (by omega))) ?_
    refine JL.go ⟨_, rfl, hg⟩ (RX.indexAddr rfl rfl sl51 (by omega) (by omega) (o' := i - 1) (by omega)) ?_
    refine JL.go ⟨_, rfl, hg⟩ (RX.loadS H hs rfl (j := i - 1) (by omega) (v := .int .u64 (x : Int)) (u64sV_get hx) one63) ?_
    refine JL.go ⟨_, rfl, hg⟩ (RX.eq rfl rfl) ?_
    refine JL.go trivial (RX.pick_t rfl hg) ?_
    refine JL.nil ?_
    refine J.cond_d rfl (fun hx0 => ?_) (fun hx0 => ?_)
    · skip
      refine J.skip ?_
      refine J.block ?_
      refine J.region ?_
      refine JL.go trivial (RX.movev (v := Value.int _ _) rfl) ?_
      refine JL.go trivial (RX.sub rfl rfl (wi (n := i - 1) (by omega) (by omega))) ?_
      refine JL.go trivial (RX.assignv (v := Value.int _ _) rfl) ?_
      refine JL.nil ?_
      refine J.inBlock ?_
      refine IH (i - 1) _ _ (by omega) ⟨rfl, trivial⟩ ⟨rfl, trivial⟩ ⟨by omega, fun j h1 h2 => ?_, H⟩
      by_cases e : j = i - 1
      · subst e; rw [hx]; congr 1; omega
      · exact hz j (by omega) h2
    · skip
      refine J.exit rfl ?_
      refine J.seq ?_
      refine J.region ?_
      refine JL.go trivial (RX.movev (v := Value.slice _ _ _) rfl) ?_
      refine JL.go trivial (RX.movev (v := Value.int _ _) rfl) ?_
      refine JL.go trivial (RX.slice_lh rfl rfl rfl sl51 (fun a ha => by cases ha; rfl) (by omega) (by omega) (by omega) (r := 0) (s := i) rfl (by omega)) ?_
      refine JL.go trivial (RX.assignv (v := Value.slice _ _ _) rfl) ?_
      refine JL.nil ?_
      refine J.ret1 (v := Value.slice _ _ _) Tryz.func53 rfl rfl ?_
      exact ⟨_, rfl, i, behind_zero hc1, ⟨hi, hz, .inr ⟨x, hx, by omega⟩⟩, H⟩
  · skip
    first | have hgp := of_decide_eq_false hg | skip
    refine JL.no ⟨_, rfl, gno hg⟩ ?_
    refine JL.no ⟨_, rfl, gno hg⟩ ?_
    refine JL.no ⟨_, rfl, gno hg⟩ ?_
    refine JL.no ⟨_, rfl, gno hg⟩ ?_
    refine JL.no ⟨_, rfl, gno hg⟩ ?_
    refine JL.no ⟨_, rfl, gno hg⟩ ?_
    refine JL.go trivial (RX.pick_f rfl hg) ?_
    refine JL.nil ?_
    refine J.cond_f rfl rfl ?_
    refine J.exit rfl ?_
    refine J.seq ?_
    refine J.region ?_
    refine JL.go trivial (RX.movev (v := Value.slice _ _ _) rfl) ?_
    refine JL.go trivial (RX.movev (v := Value.int _ _) rfl) ?_
    refine JL.go trivial (RX.slice_lh rfl rfl rfl sl51 (fun a ha => by cases ha; rfl) (by omega) (by omega) (by omega) (r := 0) (s := i) rfl (by omega)) ?_
    refine JL.go trivial (RX.assignv (v := Value.slice _ _ _) rfl) ?_
    refine JL.nil ?_
    refine J.ret1 (v := Value.slice _ _ _) Tryz.func53 rfl rfl ?_
    have hg0 := of_decide_eq_false hg
    exact ⟨_, rfl, i, behind_zero hc1, ⟨hi, hz, .inl (by omega)⟩, H⟩
set_option maxHeartbeats 1600000 in
theorem addVV_b {w0 w : World} {L : List Seg} {q c1 c2 c3 x y : Nat} {px py : Option Addr} {z : Value} {l : List Value} (H : Hp w0 w ([(q, cel (z :: l) 63)] :: L)) (hs : SlAt ([(q, cel (z :: l) 63)] :: L) px (u64sV [x])) (hs2 : SlAt ([(q, cel (z :: l) 63)] :: L) py (u64sV [y])) : Ret Tryz.prog 31 [.slice (some ⟨q, 0, none⟩) 1 c1, .slice px 1 c2, .slice py 1 c3] w fun v w' => v = .int .u64 (((x + y) / 18446744073709551616 : Nat) : Int) ∧ Hp w0 w' ([(q, cel (.int .u64 (((x + y) % 18446744073709551616 : Nat) : Int) :: l) 63)] :: L) := by
  refine Calls.of_J (n := 47) Tryz.func31 rfl rfl rfl ?_
  refine J.seq ?_
  obtain ⟨pb, po, rfl, hpp⟩ := hs.some (by rw [u64sV_len]; exact Nat.one_pos)
  obtain ⟨pb2, po2, rfl, hpp2⟩ := hs2.some (by rw [u64sV_len]; exact Nat.one_pos)
  refine J.region ?_
  refine JL.go trivial (RX.assign) ?_
  refine JL.nil ?_
  refine J.seq ?_
  refine J.seq ?_
  refine J.region ?_
  refine JL.go trivial (RX.movev (v := Value.slice _ _ _) rfl) ?_
  refine JL.go trivial (RX.len_slice rfl (by rw [sl50]; rfl) rfl) ?_
  refine JL.go trivial (RX.movev (v := Value.slice _ _ _) rfl) ?_
  refine JL.go trivial (RX.len_slice rfl (by rw [sl50]; rfl) rfl) ?_
  refine JL.go trivial (RX.ne rfl rfl) ?_
  refine JL.go trivial (RX.movev (v := Value.bool _) rfl) ?_
  refine JL.go ⟨_, rfl, rfl⟩ (RX.movev (v := Value.slice _ _ _) rfl) ?_
  refine JL.go ⟨_, rfl, rfl⟩ (RX.len_slice rfl (by rw [sl50]; rfl) rfl) ?_
  refine JL.go ⟨_, rfl, rfl⟩ (RX.movev (v := Value.slice _ _ _) rfl) ?_
  refine JL.go ⟨_, rfl, rfl⟩ (RX.len_slice rfl (by rw [sl50]; rfl) rfl) ?_
  refine JL.go ⟨_, rfl, rfl⟩ (RX.ne rfl rfl) ?_
  refine JL.go trivial (RX.pick_f rfl rfl) ?_
  refine JL.nil ?_
  refine J.cond_f rfl rfl ?_
  refine J.skip ?_
  refine J.seq ?_
  refine J.seq ?_
  refine J.region ?_
  refine JL.go trivial (RX.movev (v := Value.slice _ _ _) rfl) ?_
  refine JL.go trivial (RX.len_slice rfl (by rw [sl50]; rfl) rfl) ?_
  refine JL.go trivial (RX.move) ?_
  refine JL.nil ?_
  refine J.block ?_
  refine J.unroll ?_
  refine J.seq ?_
  refine J.region ?_
  refine JL.go trivial (RX.lt rfl rfl) ?_
  refine JL.nil ?_
  refine J.seq ?_
  refine J.cond_t rfl (decide_eq_true (by decide)) ?_
  refine J.skip ?_
  refine J.seq ?_
  refine J.block ?_
  refine J.seq ?_
  refine J.region ?_
  refine JL.go trivial (RX.movev (v := Value.int _ _) rfl) ?_
  refine JL.go trivial (RX.assignv (v := Value.int _ _) rfl) ?_
  refine JL.nil ?_
  refine J.seq ?_
  refine J.quietH H hmix (by kernel_rfl) ?_
  refine JQ.go trivial (fun w H => RX.movev (v := Value.slice _ _ _) rfl) ?_
  refine JQ.go trivial (fun w H => RX.movev (v := Value.int _ _) rfl) ?_
  refine JQ.go trivial (fun w H => RX.indexAddr rfl rfl sl50 (by omega) (by omega) (o' := po) (by omega)) ?_
  refine JQ.go trivial (fun w H => RX.loadS H hs rfl (j := 0) (by omega) (v := .int .u64 (x : Int)) rfl one63) ?_
  refine JQ.go trivial (fun w H => RX.movev (v := Value.slice _ _ _) rfl) ?_
  refine JQ.go trivial (fun w H => RX.movev (v := Value.int _ _) rfl) ?_
  refine JQ.go trivial (fun w H => RX.indexAddr rfl rfl sl50 (by omega) (by omega) (o' := po2) (by omega)) ?_
  refine JQ.go trivial (fun w H => RX.loadS H hs2 rfl (j := 0) (by omega) (v := .int .u64 (y : Int)) rfl one63) ?_
  refine JQ.go trivial (fun w H => RX.movev (v := Value.int _ _) rfl) ?_
  refine JQ.call trivial (fun w H => run_callq rfl cl54 rfl) (fun w H => (bAdd_b (c := 0) H (by decide))) ?_
  refine JQ.go trivial (fun w H => RX.movev (v := Value.tuple _) rfl) ?_
  refine JQ.go trivial (fun w H => RX.extract rfl rfl) ?_
  refine JQ.go trivial (fun w H => RX.extract rfl rfl) ?_
  refine JQ.go trivial (fun w H => RX.assignv (v := Value.int _ _) rfl) ?_
  refine JQ.go trivial (fun w H => RX.assignv (v := Value.int _ _) rfl) ?_
  refine JQ.nil fun w H => ?_
  simp only [Nat.add_zero]
  refine J.seq ?_
  refine J.region ?_
  refine JL.go trivial (RX.movev (v := Value.slice _ _ _) rfl) ?_
  refine JL.go trivial (RX.movev (v := Value.int _ _) rfl) ?_
  refine JL.go trivial (RX.movev (v := Value.int _ _) rfl) ?_
  refine JL.go trivial (RX.indexAddr rfl rfl sl50 (by omega) (by omega) rfl) ?_
  refine JL.does trivial (by first | exact EX.store (v := Value.int _ _) H rfl rfl (i := 0) rfl rfl (by simp) sz63 rfl rfl) ?_
  rintro _ w H
  refine JL.nil ?_
  refine J.region ?_
  refine JL.go trivial (RX.movev (v := Value.int _ _) rfl) ?_
  refine JL.go trivial (RX.assignv (v := Value.int _ _) rfl) ?_
  refine JL.nil ?_
  refine J.inBlock ?_
  refine J.region ?_
  refine JL.go trivial (RX.add rfl rfl (w_i64 rfl (by omega) (by omega))) ?_
  refine JL.go trivial (RX.movev (v := Value.int _ _) rfl) ?_
  refine JL.nil ?_
  refine J.again ?_
  refine J.seq ?_
  refine J.region ?_
  refine JL.go trivial (RX.lt rfl rfl) ?_
  refine JL.nil ?_
  refine J.seq ?_
  refine J.cond_f rfl (decide_eq_false (by decide)) ?_
  refine J.exit rfl ?_
  refine J.ret1 (v := Value.int _ _) Tryz.func31 rfl rfl ?_
  exact ⟨_, rfl, rfl, H⟩
set_option maxHeartbeats 1600000 in
theorem subVV_b {w0 w : World} {L : List Seg} {q c1 c2 c3 x y : Nat} {px py : Option Addr} {z : Value} {l : List Value} (H : Hp w0 w ([(q, cel (z :: l) 63)] :: L)) (hs : SlAt ([(q, cel (z :: l) 63)] :: L) px (u64sV [x])) (hs2 : SlAt ([(q, cel (z :: l) 63)] :: L) py (u64sV [y])) : Ret Tryz.prog 32 [.slice (some ⟨q, 0, none⟩) 1 c1, .slice px 1 c2, .slice py 1 c3] w fun v w' => v = .int .u64 ((if x < y then 1 else 0 : Nat) : Int) ∧ Hp w0 w' ([(q, cel (.int .u64 (((x + 18446744073709551616 - y) % 18446744073709551616 : Nat) : Int) :: l) 63)] :: L) := by
  refine Calls.of_J (n := 47) Tryz.func32 rfl rfl rfl ?_
  refine J.seq ?_
  obtain ⟨pb, po, rfl, hpp⟩ := hs.some (by rw [u64sV_len]; exact Nat.one_pos)
  obtain ⟨pb2, po2, rfl, hpp2⟩ := hs2.some (by rw [u64sV_len]; exact Nat.one_pos)
  refine J.region ?_
  refine JL.go trivial (RX.assign) ?_
  refine JL.nil ?_
  refine J.seq ?_
  refine J.seq ?_
  refine J.region ?_
  refine JL.go trivial (RX.movev (v := Value.slice _ _ _) rfl) ?_
  refine JL.go trivial (RX.len_slice rfl (by rw [sl50]; rfl) rfl) ?_
  refine JL.go trivial (RX.movev (v := Value.slice _ _ _) rfl) ?_
  refine JL.go trivial (RX.len_slice rfl (by rw [sl50]; rfl) rfl) ?_
  refine JL.go trivial (RX.ne rfl rfl) ?_
  refine JL.go trivial (RX.movev (v := Value.bool _) rfl) ?_
  refine JL.go ⟨_, rfl, rfl⟩ (RX.movev (v := Value.slice _ _ _) rfl) ?_
  refine JL.go ⟨_, rfl, rfl⟩ (RX.len_slice rfl (by rw [sl50]; rfl) rfl) ?_
  refine JL.go ⟨_, rfl, rfl⟩ (RX.movev (v := Value.slice _ _ _) rfl) ?_
  refine JL.go ⟨_, rfl, rfl⟩ (RX.len_slice rfl (by rw [sl50]; rfl) rfl) ?_
  refine JL.go ⟨_, rfl, rfl⟩ (RX.ne rfl rfl) ?_
  refine JL.go trivial (RX.pick_f rfl rfl) ?_
  refine JL.nil ?_
  refine J.cond_f rfl rfl ?_
  refine J.skip ?_
  refine J.seq ?_
  refine J.seq ?_
  refine J.region ?_
  refine JL.go trivial (RX.movev (v := Value.slice _ _ _) rfl) ?_
  refine JL.go trivial (RX.len_slice rfl (by rw [sl50]; rfl) rfl) ?_
  refine JL.go trivial (RX.move) ?_
  refine JL.nil ?_
  refine J.block ?_
  refine J.unroll ?_
  refine J.seq ?_
  refine J.region ?_
  refine JL.go trivial (RX.lt rfl rfl) ?_
  refine JL.nil ?_
  refine J.seq ?_
  refine J.cond_t rfl (decide_eq_true (by decide)) ?_
  refine J.skip ?_
  refine J.seq ?_
  refine J.block ?_
  refine J.seq ?_
  refine J.region ?_
  refine JL.go trivial (RX.movev (v := Value.int _ _) rfl) ?_
  refine JL.go trivial (RX.assignv (v := Value.int _ _) rfl) ?_
  refine JL.nil ?_
  refine J.seq ?_
  refine J.quietH H hmix (by kernel_rfl) ?_
  refine JQ.go trivial (fun w H => RX.movev (v := Value.slice _ _ _) rfl) ?_
  refine JQ.go trivial (fun w H => RX.movev (v := Value.int _ _) rfl) ?_
  refine JQ.go trivial (fun w H => RX.indexAddr rfl rfl sl50 (by omega) (by omega) (o' := po) (by omega)) ?_
  refine JQ.go trivial (fun w H => RX.loadS H hs rfl (j := 0) (by omega) (v := .int .u64 (x : Int)) rfl one63) ?_
  refine JQ.go trivial (fun w H => RX.movev (v := Value.slice _ _ _) rfl) ?_
  refine JQ.go trivial (fun w H => RX.movev (v := Value.int _ _) rfl) ?_
  refine JQ.go trivial (fun w H => RX.indexAddr rfl rfl sl50 (by omega) (by omega) (o' := po2) (by omega)) ?_
  refine JQ.go trivial (fun w H => RX.loadS H hs2 rfl (j := 0) (by omega) (v := .int .u64 (y : Int)) rfl one63) ?_
  refine JQ.go trivial (fun w H => RX.movev (v := Value.int _ _) rfl) ?_
  refine JQ.call trivial (fun w H => run_callq rfl cl57 rfl) (fun w H => (bSub_b (c := 0) H (by decide))) ?_
  refine JQ.go trivial (fun w H => RX.movev (v := Value.tuple _) rfl) ?_
  refine JQ.go trivial (fun w H => RX.extract rfl rfl) ?_
  refine JQ.go trivial (fun w H => RX.extract rfl rfl) ?_
  refine JQ.go trivial (fun w H => RX.assignv (v := Value.int _ _) rfl) ?_
  refine JQ.go trivial (fun w H => RX.assignv (v := Value.int _ _) rfl) ?_
  refine JQ.nil fun w H => ?_
  simp only [Nat.add_zero, Nat.sub_zero]
  refine J.seq ?_
  refine J.region ?_
  refine JL.go trivial (RX.movev (v := Value.slice _ _ _) rfl) ?_
  refine JL.go trivial (RX.movev (v := Value.int _ _) rfl) ?_
  refine JL.go trivial (RX.movev (v := Value.int _ _) rfl) ?_
  refine JL.go trivial (RX.indexAddr rfl rfl sl50 (by omega) (by omega) rfl) ?_
  refine JL.does trivial (by first | exact EX.store (v := Value.int _ _) H rfl rfl (i := 0) rfl rfl (by simp) sz63 rfl rfl) ?_
  rintro _ w H
  refine JL.nil ?_
  refine J.region ?_
  refine JL.go trivial (RX.movev (v := Value.int _ _) rfl) ?_
  refine JL.go trivial (RX.assignv (v := Value.int _ _) rfl) ?_
  refine JL.nil ?_
  refine J.inBlock ?_
  refine J.region ?_
  refine JL.go trivial (RX.add rfl rfl (w_i64 rfl (by omega) (by omega))) ?_
  refine JL.go trivial (RX.movev (v := Value.int _ _) rfl) ?_
  refine JL.nil ?_
  refine J.again ?_
  refine J.seq ?_
  refine J.region ?_
  refine JL.go trivial (RX.lt rfl rfl) ?_
  refine JL.nil ?_
  refine J.seq ?_
  refine J.cond_f rfl (decide_eq_false (by decide)) ?_
  refine J.exit rfl ?_
  refine J.ret1 (v := Value.int _ _) Tryz.func32 rfl rfl ?_
  exact ⟨_, rfl, rfl, H⟩
set_option maxHeartbeats 1600000 in
theorem addVW_b {w0 w : World} {L : List Seg} {q c1 c2 b o x k : Nat} {z0 z1 : Value} {l : List Value} (H : Hp w0 w ([(q, cel (z0 :: z1 :: l) 63)] :: L)) (hs : SlAt ([(q, cel (z0 :: z1 :: l) 63)] :: L) (some ⟨b, o, none⟩) (u64sV [x])) (hal : q = b → 1 = o) {C : Array Value} {TC : TypeId} (hm : b = q ∨ (b, Obj.cells C TC (0, 0)) ∈ L.flatten) (hk : k ≤ 1) (hx : x + k < 18446744073709551616) : Ret Tryz.prog 52 [.slice (some ⟨q, 1, none⟩) 1 c1, .slice (some ⟨b, o, none⟩) 1 c2, .int .u64 ((k : Nat) : Int)] w fun v w' => v = .int .u64 0 ∧ Hp w0 w' ([(q, cel (z0 :: .int .u64 ((x + k : Nat) : Int) :: l) 63)] :: L) := by
  refine Calls.of_J (n := 78) Tryz.func52 rfl rfl rfl ?_
  refine J.seq ?_
  refine J.region ?_
  refine JL.go trivial (RX.assign) ?_
  refine JL.nil ?_
  refine J.seq ?_
  refine J.seq ?_
  refine J.region ?_
  refine JL.go trivial (RX.movev (v := Value.slice _ _ _) rfl) ?_
  refine JL.go trivial (RX.len_slice rfl (by rw [sl50]; rfl) rfl) ?_
  refine JL.go trivial (RX.movev (v := Value.slice _ _ _) rfl) ?_
  refine JL.go trivial (RX.len_slice rfl (by rw [sl50]; rfl) rfl) ?_
  refine JL.go trivial (RX.ne rfl rfl) ?_
  refine JL.nil ?_
  refine J.cond_f rfl (decide_eq_false (by simp)) ?_
  refine J.skip ?_
  refine J.seq ?_
  refine J.seq ?_
  refine J.region ?_
  refine JL.go trivial (RX.movev (v := Value.slice _ _ _) rfl) ?_
  refine JL.go trivial (RX.len_slice rfl (by rw [sl50]; rfl) rfl) ?_
  refine JL.go trivial (RX.eq rfl rfl) ?_
  refine JL.nil ?_
  refine J.cond_f rfl (decide_eq_false (by decide)) ?_
  refine J.skip ?_
  refine J.seq ?_
  refine J.region ?_
  refine JL.go trivial (RX.movev (v := Value.slice _ _ _) rfl) ?_
  refine JL.go trivial (RX.indexAddr rfl rfl sl50 (by omega) (by omega) (o' := o) (by omega)) ?_
  refine JL.go trivial (RX.loadS H hs rfl (j := 0) (by omega) (v := .int .u64 (x : Int)) rfl one63) ?_
  refine JL.go trivial (RX.movev (v := Value.int _ _) rfl) ?_
  refine JL.does trivial (EX.call rfl cl54 rfl ((bAdd_b (c := 0) H (by decide)))) ?_
  rintro _ w ⟨rfl, H⟩
  refine JL.go trivial (RX.movev (v := Value.tuple _) rfl) ?_
  refine JL.go trivial (RX.extract rfl rfl) ?_
  refine JL.go trivial (RX.extract rfl rfl) ?_
  refine JL.go trivial (RX.assignv (v := Value.int _ _) rfl) ?_
  refine JL.go trivial (RX.assignv (v := Value.int _ _) rfl) ?_
  refine JL.nil ?_
  have e1 : (x + k + 0) % 18446744073709551616 = x + k := by omega
  have e2 : (x + k + 0) / 18446744073709551616 = 0 := by omega
  rw [e1, e2]
  refine J.seq ?_
  refine J.region ?_
  refine JL.go trivial (RX.movev (v := Value.slice _ _ _) rfl) ?_
  refine JL.go trivial (RX.movev (v := Value.int _ _) rfl) ?_
  refine JL.go trivial (RX.indexAddr rfl rfl sl50 (by omega) (by omega) (o' := 1) (by omega)) ?_
  refine JL.does trivial (EX.store (v := Value.int _ _) H rfl rfl (i := 0) rfl rfl (by simp) sz63 rfl rfl) ?_
  rintro _ w H
  refine JL.nil ?_
  refine J.seq ?_
  refine J.seq ?_
  refine J.region ?_
  refine JL.go trivial (RX.movev (v := Value.int _ _) rfl) ?_
  refine JL.go trivial (RX.eq rfl rfl) ?_
  refine JL.nil ?_
  refine J.cond_t rfl (decide_eq_true rfl) ?_
  refine J.seq ?_
  refine J.seq ?_
  have hmq : (q, Obj.cells (z0 :: .int .u64 ((x + k : Nat) : Int) :: l).toArray 63 (0, 0)) ∈ (([(q, cel (z0 :: .int .u64 ((x + k : Nat) : Int) :: l) 63)] : Seg) :: L).flatten := List.mem_append_left _ (List.mem_singleton.2 rfl)
  obtain ⟨CB, TB, hmb⟩ : ∃ CB TB, (b, Obj.cells CB TB (0, 0)) ∈ (([(q, cel (z0 :: .int .u64 ((x + k : Nat) : Int) :: l) 63)] : Seg) :: L).flatten := by
    rcases hm with rfl | hm
    · exact ⟨_, _, hmq⟩
    · exact ⟨_, _, List.mem_append_right _ hm⟩
  refine J.quietH H hmix (by kernel_rfl) ?_
  refine JQ.go trivial (fun w H => RX.movev (v := Value.slice _ _ _) rfl) ?_
  refine JQ.go trivial (fun w H => RX.indexAddr rfl rfl sl50 (by omega) (by omega) (o' := 1) (by omega)) ?_
  refine JQ.go trivial (fun w H => RX.movev (v := Value.slice _ _ _) rfl) ?_
  refine JQ.go trivial (fun w H => RX.indexAddr rfl rfl sl50 (by omega) (by omega) (o' := o) (by omega)) ?_
  refine JQ.go trivial (fun w H => RX.ptr_neq H rfl rfl ud87 (k := 0) sz63 hal hmq hmb) ?_
  refine JQ.nil fun w H => ?_
  refine J.cond_d rfl (fun h1 => ?_) (fun h1 => ?_)
  · skip
    refine J.any hmix fun w hs => ?_
    replace H := H.same hs; clear hs
    refine JA.take 0 (listed' := [true, false, false, false, false]) rfl (by kernel_rfl) (by kernel_rfl) (by kernel_rfl) rfl trivial (fun w => RX.movev (v := Value.slice _ _ _) rfl) ?_
    refine JA.take 1 (listed' := [true, true, false, false, false]) rfl (by kernel_rfl) (by kernel_rfl) (by kernel_rfl) rfl trivial (fun w => RX.slice_l rfl rfl sl50 (fun a ha => by cases ha; rfl) (by decide) (by decide) (r := 1) rfl) ?_
    refine JA.take 2 (listed' := [true, true, true, false, false]) rfl (by kernel_rfl) (by kernel_rfl) (by kernel_rfl) rfl trivial (fun w => RX.movev (v := Value.slice _ _ _) rfl) ?_
    refine JA.take 3 (listed' := [true, true, true, true, false]) rfl (by kernel_rfl) (by kernel_rfl) (by kernel_rfl) rfl trivial (fun w => RX.slice_l rfl rfl sl50 (fun a ha => by cases ha; rfl) (by decide) (by decide) (r := 1) rfl) ?_
    refine JA.all [4] (by kernel_rfl) (by decide) ?_
    refine JO.does (listed' := [true, true, true, true, true]) rfl rfl trivial (EX.copy0 H rfl rfl ud50 (by kernel_rfl) rfl) ?_
    rintro _ w ⟨rfl, H⟩
    refine JA.done (by kernel_rfl) ?_
    refine J.seq ?_
    refine J.region ?_
    refine JL.go trivial (RX.assign) ?_
    refine JL.nil ?_
    refine J.ret1 (v := Value.int _ _) Tryz.func52 rfl rfl ?_
    exact ⟨_, rfl, rfl, H⟩
  · skip
    refine J.skip ?_
    refine J.seq ?_
    refine J.region ?_
    refine JL.go trivial (RX.assign) ?_
    refine JL.nil ?_
    refine J.ret1 (v := Value.int _ _) Tryz.func52 rfl rfl ?_
    exact ⟨_, rfl, rfl, H⟩
set_option maxHeartbeats 1600000 in
theorem subVW_b {w0 w : World} {L : List Seg} {q c1 c2 b o x k : Nat} {z0 z1 : Value} {l : List Value} (H : Hp w0 w ([(q, cel (z0 :: z1 :: l) 63)] :: L)) (hs : SlAt ([(q, cel (z0 :: z1 :: l) 63)] :: L) (some ⟨b, o, none⟩) (u64sV [x])) (hal : q = b → 1 = o) {C : Array Value} {TC : TypeId} (hm : b = q ∨ (b, Obj.cells C TC (0, 0)) ∈ L.flatten) (hk : k ≤ 1) (hkx : k ≤ x) (hx : x < 18446744073709551616) : Ret Tryz.prog 56 [.slice (some ⟨q, 1, none⟩) 1 c1, .slice (some ⟨b, o, none⟩) 1 c2, .int .u64 ((k : Nat) : Int)] w fun v w' => v = .int .u64 0 ∧ Hp w0 w' ([(q, cel (z0 :: .int .u64 ((x - k : Nat) : Int) :: l) 63)] :: L) := by
  refine Calls.of_J (n := 78) Tryz.func56 rfl rfl rfl ?_
  refine J.seq ?_
  refine J.region ?_
  refine JL.go trivial (RX.assign) ?_
  refine JL.nil ?_
  refine J.seq ?_
  refine J.seq ?_
  refine J.region ?_
  refine JL.go trivial (RX.movev (v := Value.slice _ _ _) rfl) ?_
  refine JL.go trivial (RX.len_slice rfl (by rw [sl50]; rfl) rfl) ?_
  refine JL.go trivial (RX.movev (v := Value.slice _ _ _) rfl) ?_
  refine JL.go trivial (RX.len_slice rfl (by rw [sl50]; rfl) rfl) ?_
  refine JL.go trivial (RX.ne rfl rfl) ?_
  refine JL.nil ?_
  refine J.cond_f rfl (decide_eq_false (by simp)) ?_
  refine J.skip ?_
  refine J.seq ?_
  refine J.seq ?_
  refine J.region ?_
  refine JL.go trivial (RX.movev (v := Value.slice _ _ _) rfl) ?_
  refine JL.go trivial (RX.len_slice rfl (by rw [sl50]; rfl) rfl) ?_
  refine JL.go trivial (RX.eq rfl rfl) ?_
  refine JL.nil ?_
  refine J.cond_f rfl (decide_eq_false (by decide)) ?_
  refine J.skip ?_
  refine J.seq ?_
  refine J.region ?_
  refine JL.go trivial (RX.movev (v := Value.slice _ _ _) rfl) ?_
  refine JL.go trivial (RX.indexAddr rfl rfl sl50 (by omega) (by omega) (o' := o) (by omega)) ?_
  refine JL.go trivial (RX.loadS H hs rfl (j := 0) (by omega) (v := .int .u64 (x : Int)) rfl one63) ?_
  refine JL.go trivial (RX.movev (v := Value.int _ _) rfl) ?_
  refine JL.does trivial (EX.call rfl cl57 rfl ((bSub_b (c := 0) H (by decide)))) ?_
  rintro _ w ⟨rfl, H⟩
  refine JL.go trivial (RX.movev (v := Value.tuple _) rfl) ?_
  refine JL.go trivial (RX.extract rfl rfl) ?_
  refine JL.go trivial (RX.extract rfl rfl) ?_
  refine JL.go trivial (RX.assignv (v := Value.int _ _) rfl) ?_
  refine JL.go trivial (RX.assignv (v := Value.int _ _) rfl) ?_
  refine JL.nil ?_
  have e1 : (x + 18446744073709551616 - k - 0) % 18446744073709551616 = x - k := by omega
  have e2 : (if x < k + 0 then 1 else 0 : Nat) = 0 := if_neg (by omega)
  rw [e1, e2]
  refine J.seq ?_
  refine J.region ?_
  refine JL.go trivial (RX.movev (v := Value.slice _ _ _) rfl) ?_
  refine JL.go trivial (RX.movev (v := Value.int _ _) rfl) ?_
  refine JL.go trivial (RX.indexAddr rfl rfl sl50 (by omega) (by omega) (o' := 1) (by omega)) ?_
  refine JL.does trivial (EX.store (v := Value.int _ _) H rfl rfl (i := 0) rfl rfl (by simp) sz63 rfl rfl) ?_
  rintro _ w H
  refine JL.nil ?_
  refine J.seq ?_
  refine J.seq ?_
  refine J.region ?_
  refine JL.go trivial (RX.movev (v := Value.int _ _) rfl) ?_
  refine JL.go trivial (RX.eq rfl rfl) ?_
  refine JL.nil ?_
  refine J.cond_t rfl (decide_eq_true rfl) ?_
  refine J.seq ?_
  refine J.seq ?_
  have hmq : (q, Obj.cells (z0 :: .int .u64 ((x - k : Nat) : Int) :: l).toArray 63 (0, 0)) ∈ (([(q, cel (z0 :: .int .u64 ((x - k : Nat) : Int) :: l) 63)] : Seg) :: L).flatten := List.mem_append_left _ (List.mem_singleton.2 rfl)
  obtain ⟨CB, TB, hmb⟩ : ∃ CB TB, (b, Obj.cells CB TB (0, 0)) ∈ (([(q, cel (z0 :: .int .u64 ((x - k : Nat) : Int) :: l) 63)] : Seg) :: L).flatten := by
    rcases hm with rfl | hm
    · exact ⟨_, _, hmq⟩
    · exact ⟨_, _, List.mem_append_right _ hm⟩
  refine J.quietH H hmix (by kernel_rfl) ?_
  refine JQ.go trivial (fun w H => RX.movev (v := Value.slice _ _ _) rfl) ?_
  refine JQ.go trivial (fun w H => RX.indexAddr rfl rfl sl50 (by omega) (by omega) (o' := 1) (by omega)) ?_
  refine JQ.go trivial (fun w H => RX.movev (v := Value.slice _ _ _) rfl) ?_
  refine JQ.go trivial (fun w H => RX.indexAddr rfl rfl sl50 (by omega) (by omega) (o' := o) (by omega)) ?_
  refine JQ.go trivial (fun w H => RX.ptr_neq H rfl rfl ud87 (k := 0) sz63 hal hmq hmb) ?_
  refine JQ.nil fun w H => ?_
  refine J.cond_d rfl (fun h1 => ?_) (fun h1 => ?_)
  · skip
    refine J.any hmix fun w hs => ?_
    replace H := H.same hs; clear hs
    refine JA.take 0 (listed' := [true, false, false, false, false]) rfl (by kernel_rfl) (by kernel_rfl) (by kernel_rfl) rfl trivial (fun w => RX.movev (v := Value.slice _ _ _) rfl) ?_
    refine JA.take 1 (listed' := [true, true, false, false, false]) rfl (by kernel_rfl) (by kernel_rfl) (by kernel_rfl) rfl trivial (fun w => RX.slice_l rfl rfl sl50 (fun a ha => by cases ha; rfl) (by decide) (by decide) (r := 1) rfl) ?_
    refine JA.take 2 (listed' := [true, true, true, false, false]) rfl (by kernel_rfl) (by kernel_rfl) (by kernel_rfl) rfl trivial (fun w => RX.movev (v := Value.slice _ _ _) rfl) ?_
    refine JA.take 3 (listed' := [true, true, true, true, false]) rfl (by kernel_rfl) (by kernel_rfl) (by kernel_rfl) rfl trivial (fun w => RX.slice_l rfl rfl sl50 (fun a ha => by cases ha; rfl) (by decide) (by decide) (r := 1) rfl) ?_
    refine JA.all [4] (by kernel_rfl) (by decide) ?_
    refine JO.does (listed' := [true, true, true, true, true]) rfl rfl trivial (EX.copy0 H rfl rfl ud50 (by kernel_rfl) rfl) ?_
    rintro _ w ⟨rfl, H⟩
    refine JA.done (by kernel_rfl) ?_
    refine J.seq ?_
    refine J.region ?_
    refine JL.go trivial (RX.assign) ?_
    refine JL.nil ?_
    refine J.ret1 (v := Value.int _ _) Tryz.func56 rfl rfl ?_
    exact ⟨_, rfl, rfl, H⟩
  · skip
    refine J.skip ?_
    refine J.seq ?_
    refine J.region ?_
    refine JL.go trivial (RX.assign) ?_
    refine JL.nil ?_
    refine J.ret1 (v := Value.int _ _) Tryz.func56 rfl rfl ?_
    exact ⟨_, rfl, rfl, H⟩
end Go.Proofs.YtfpphoapknecfaaGreatDoorBesafter
