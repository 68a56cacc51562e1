/- The reference: its tables. -/
import Derived.Test.YtmppcnbkfjeabaaDoorRf
namespace Go.Proofs.YtmppcnbkfjeabaaDoor
open Go Go.Eng
set_option maxRecDepth 100000
set_option linter.unusedVariables false
set_option linter.unusedSimpArgs false
theorem cl34 : callable Tryd.prog 34 = true := by kernel_rfl
theorem cl43 : callable Tryd.prog 43 = true := by kernel_rfl
theorem cl46 : callable Tryd.prog 46 = true := by kernel_rfl
theorem fo49_0 : fieldOff Tryd.prog 49 0 = some 0 := by kernel_rfl
theorem fo49_1 : fieldOff Tryd.prog 49 1 = some 1 := by kernel_rfl

structure RS where
  p : Option Addr
  c : Nat
  sl : Seg
  zs : List Int
abbrev RS.rb (r : RS) (b : Nat) (m : Int) : Seg := [(b, cel [.slice r.p r.zs.length r.c, .int .i64 m] 49)]
structure RS.ok (r : RS) : Prop where
  own : OwnSl 3 1 r.p r.zs.length r.c (intsV r.zs) r.sl
  up : r.zs.Pairwise (· < ·)
  rng : ∀ x ∈ r.zs, 1 ≤ x ∧ x ≤ 16384
theorem RS.ok.len {r : RS} (h : r.ok) : r.zs.length ≤ 16384 := by
  have := up_len r.zs 1 16384 h.up h.rng (by decide)
  omega
theorem up_nodup {l : List Int} (h : l.Pairwise (· < ·)) : l.Nodup := h.imp fun h => by omega
theorem mem_at {zs : List Int} {n : Int} {i : Nat} (up : zs.Pairwise (· < ·)) (hlt : ∀ y ∈ zs.take i, y < n) (hstop : i = zs.length ∨ ∃ x, zs[i]? = some x ∧ n ≤ x) : n ∈ zs ↔ zs[i]? = some n := by
  refine ⟨fun h => ?_, List.mem_of_getElem?⟩
  have e : zs = zs.take i ++ zs.drop i := (List.take_append_drop i zs).symm
  rw [e] at h
  rcases List.mem_append.1 h with h | h
  · have := hlt _ h; omega
  · rcases hstop with rfl | ⟨x, hx, hn⟩
    · simp at h
    · obtain ⟨hl, hxe⟩ := List.getElem?_eq_some_iff.1 hx
      rw [List.drop_eq_getElem_cons hl, hxe] at h
      rcases List.mem_cons.1 h with rfl | h
      · exact hx
      · rw [e, List.drop_eq_getElem_cons hl, hxe, List.pairwise_append, List.pairwise_cons] at up
        have := up.2.1.1 n h
        omega
theorem ins_up {zs : List Int} {n : Int} {i : Nat} (up : zs.Pairwise (· < ·)) (hlt : ∀ y ∈ zs.take i, y < n) (hstop : i = zs.length ∨ ∃ x, zs[i]? = some x ∧ n < x) : (zs.take i ++ n :: zs.drop i).Pairwise (· < ·) := by
  have e : zs = zs.take i ++ zs.drop i := (List.take_append_drop i zs).symm
  have up2 := up
  rw [e, List.pairwise_append] at up2
  have hd : ∀ y ∈ zs.drop i, n < y := by
    intro y hy
    rcases hstop with rfl | ⟨x, hx, hn⟩
    · simp at hy
    · obtain ⟨hl, hxe⟩ := List.getElem?_eq_some_iff.1 hx
      rw [List.drop_eq_getElem_cons hl, hxe] at hy up2
      rcases List.mem_cons.1 hy with rfl | hy
      · exact hn
      · have := (List.pairwise_cons.1 up2.2.1).1 y hy
        omega
  rw [List.pairwise_append, List.pairwise_cons]
  refine ⟨up2.1, ⟨hd, up2.2.1⟩, fun a ha b hb => ?_⟩
  rcases List.mem_cons.1 hb with rfl | hb
  · exact hlt a ha
  · exact up2.2.2 a ha b hb
theorem ins_perm {zs : List Int} {n : Int} {i : Nat} : (zs.take i ++ n :: zs.drop i).Perm (zs ++ [n]) := by
  refine List.perm_middle.trans ?_
  rw [List.take_append_drop]
  exact (List.perm_append_singleton n zs).symm
theorem set_mid {α : Type} (a : List α) (q x : α) (b : List α) : (a ++ q :: b).set a.length x = a ++ x :: b := by
  rw [List.set_append_right _ _ (Nat.le_refl _), Nat.sub_self]; rfl
theorem shift_set {zs : List Int} {k : Nat} {q y : Int} (hk : k ≤ zs.length) : (intsV (zs.take k ++ q :: zs.drop k)).set k (.int .i64 y) = intsV (zs.take k ++ y :: zs.drop k) := by
  have h := set_mid (intsV (zs.take k)) (Value.int .i64 q) (Value.int .i64 y) (intsV (zs.drop k))
  have hl : (intsV (zs.take k)).length = k := by rw [intsV_len, List.length_take]; omega
  rw [hl] at h
  have e : ∀ z : Int, intsV (zs.take k ++ z :: zs.drop k) = intsV (zs.take k) ++ Value.int .i64 z :: intsV (zs.drop k) := fun z => by rw [intsV_app]; rfl
  rw [e, e, h]
theorem shift_step {zs : List Int} {k : Nat} {q y : Int} (hy : zs[k]? = some y) : (intsV (zs.take (k + 1) ++ q :: zs.drop (k + 1))).set (k + 1) (.int .i64 y) = intsV (zs.take k ++ y :: zs.drop k) := by
  obtain ⟨hl, he⟩ := List.getElem?_eq_some_iff.1 hy
  rw [shift_set (by omega), take_succ_get hy, List.drop_eq_getElem_cons hl, he, List.append_assoc]; rfl
theorem shift_get {zs : List Int} {k : Nat} {q y : Int} (hy : zs[k]? = some y) : (intsV (zs.take (k + 1) ++ q :: zs.drop (k + 1)))[k]? = some (.int .i64 y) := by
  refine intsV_get ?_
  obtain ⟨hl, he⟩ := List.getElem?_eq_some_iff.1 hy
  rw [List.getElem?_append_left (by rw [List.length_take]; omega), List.getElem?_take_of_lt (by omega), hy]
theorem mid_len {zs : List Int} {i : Nat} {n : Int} (h : i ≤ zs.length) : (zs.take i ++ n :: zs.drop i).length = zs.length + 1 := by
  rw [List.length_append, List.length_cons, List.length_take, List.length_drop]; omega
def RAsk (n : Int) (r r' : RS) (m m' : Int) : Prop := (n ∈ r.zs ∧ r' = r ∧ m' = m) ∨ (n ∉ r.zs ∧ r'.zs.Perm (r.zs ++ [n]) ∧ m' = m + 1)

set_option maxHeartbeats 800000 in
theorem rask_b {w0 w : World} {F : List Seg} {b : Nat} {m : Int} {r : RS} (H : Hp w0 w (r.rb b m :: r.sl :: F)) (ok : r.ok) {n : Int} (hn : 1 ≤ n) (hn2 : n ≤ 16384) (hm0 : 0 ≤ m) (hm : m < 9223372036854775807) : Ret Tryd.prog 43 [.pointer (some ⟨b, 0, none⟩), .int .i64 n] w fun v w' => v = .int .i64 0 ∧ ∃ r' m', r'.ok ∧ RAsk n r r' m m' ∧ Hp w0 w' (r'.rb b m' :: r'.sl :: F) := by
  refine Calls.of_J (n := 99) Tryd.func43 rfl rfl rfl ?_
  refine J.seq ?_
  refine J.region ?_
  refine JL.go trivial (RX.assign) ?_
  refine JL.nil ?_
  refine J.seq ?_
  refine J.seq ?_
  obtain ⟨p, c, sl, zs⟩ := r
  have hlen16 := ok.len
  obtain ⟨own, up, rng⟩ := ok
  simp only at own up rng hlen16
  replace H : Hp w0 w ([(b, cel [.slice p zs.length c, .int .i64 m] 49)] :: sl :: F) := H
  refine J.region ?_
  refine JL.go trivial (RX.movev (v := Value.int _ _) rfl) ?_
  refine JL.go trivial (RX.lt rfl rfl) ?_
  refine JL.go trivial (RX.movev (v := Value.bool _) rfl) ?_
  refine JL.go ⟨_, rfl, (decide_eq_false (by omega))⟩ (RX.movev (v := Value.int _ _) rfl) ?_
  refine JL.go ⟨_, rfl, (decide_eq_false (by omega))⟩ (RX.gt rfl rfl) ?_
  refine JL.go trivial (RX.pick_f rfl (decide_eq_false (by omega))) ?_
  refine JL.nil ?_
  refine J.cond_f rfl (decide_eq_false (by omega)) ?_
  refine J.skip ?_
  refine J.seq ?_
  refine J.region ?_
  refine JL.go trivial (RX.assign) ?_
  refine JL.nil ?_
  refine J.seq ?_
  refine J.block ?_
  refine J.loop (ι := Nat) (S := fun k => [(5, .int .i64 (k : Nat))]) (Φ := fun k w => (k ≤ zs.length ∧ ∀ y ∈ zs.take k, y < n) ∧ Hp w0 w ([(b, cel [.slice p zs.length c, .int .i64 m] 49)] :: sl :: F)) (μ := fun k => zs.length - k) (C := [(0, _), (1, _)]) 0 ⟨rfl, rfl, trivial⟩ ⟨rfl, trivial⟩ ?_ ?_
  · exact ⟨⟨by omega, by simp⟩, H⟩
  clear H
  rintro i ρ w ⟨⟨hi, hlt⟩, H⟩ IH
  refine J.seq ?_
  refine J.seq ?_
  refine J.join (ι := Bool) (fun q => [(30, .bool q)]) (fun q w => ((q = true → i < zs.length ∧ ∃ x, zs[i]? = some x ∧ x < n) ∧ (q = false → i = zs.length ∨ ∃ x, zs[i]? = some x ∧ n ≤ x)) ∧ Hp w0 w ([(b, cel [.slice p zs.length c, .int .i64 m] 49)] :: sl :: F)) [(0, _), (1, _), (5, _)] ⟨rfl, rfl, rfl, trivial⟩ ?_ ?_
  rotate_left
  · skip
    intro k2 hk2
    refine J.region ?_
    refine JL.go trivial (RX.movev (v := Value.int _ _) rfl) ?_
    refine JL.go trivial (RX.movev (v := Value.pointer _) rfl) ?_
    refine JL.go trivial (RX.nilCheck rfl) ?_
    refine JL.go trivial (RX.fieldAddr rfl fo49_0 rfl) ?_
    refine JL.go trivial (RX.load H rfl (i := 0) (v := .slice p zs.length c) rfl rfl one22) ?_
    refine JL.go trivial (RX.len_slice rfl (by rw [sl22]; rfl) rfl) ?_
    refine JL.go trivial (RX.lt rfl rfl) ?_
    refine JL.go trivial (RX.movev (v := Value.bool _) rfl) ?_
    refine JL.splitS 20 rfl (fun hg4 => ?_) (fun hg4 => ?_)
    · skip
      first | have hg4p := of_decide_eq_true hg4 | skip
      have hg4q := of_decide_eq_true hg4
      obtain ⟨x, hx⟩ : ∃ x, zs[i]? = some x := ⟨_, List.getElem?_eq_getElem (by omega)⟩
      obtain ⟨pb, po, rfl, _⟩ := (own.slAt (L := F)).some (by rw [intsV_len]; omega)
      refine JL.go ⟨_, rfl, hg4⟩ (RX.movev (v := Value.pointer _) rfl) ?_
      refine JL.go ⟨_, rfl, hg4⟩ (RX.nilCheck rfl) ?_
      refine JL.go ⟨_, rfl, hg4⟩ (RX.fieldAddr rfl fo49_0 rfl) ?_
      refine JL.go ⟨_, rfl, hg4⟩ (RX.load H rfl (i := 0) (v := .slice (some ⟨pb, po, none⟩) zs.length c) rfl rfl one22) ?_
      refine JL.go ⟨_, rfl, hg4⟩ (RX.movev (v := Value.int _ _) rfl) ?_
      refine JL.go ⟨_, rfl, hg4⟩ (RX.indexAddr rfl rfl sl22 (by omega) (by omega) (o' := po + i) (by omega)) ?_
      refine JL.go ⟨_, rfl, hg4⟩ (RX.loadS H (SlAt.cons own.slAt) rfl (j := i) rfl (intsV_get hx) one3) ?_
      refine JL.go ⟨_, rfl, hg4⟩ (RX.movev (v := Value.int _ _) rfl) ?_
      refine JL.go ⟨_, rfl, hg4⟩ (RX.lt rfl rfl) ?_
      refine JL.go trivial (RX.pick_t rfl hg4) ?_
      refine JL.nil ?_
      first
      | exact hk2 (decide (x < n)) _ _ ⟨rfl, rfl, rfl, trivial⟩ ⟨rfl, trivial⟩ ⟨⟨fun h => ⟨by omega, x, hx, of_decide_eq_true h⟩, fun h => .inr ⟨x, hx, by have := of_decide_eq_false h; omega⟩⟩, H⟩
      | exact hk2 false _ _ ⟨rfl, rfl, rfl, trivial⟩ ⟨rfl, trivial⟩ ⟨⟨fun h => (by cases h), fun _ => .inl (by have := of_decide_eq_false hg4; omega)⟩, H⟩
    · skip
      first | have hg4p := of_decide_eq_false hg4 | skip
      refine JL.no ⟨_, rfl, gno hg4⟩ ?_
      refine JL.no ⟨_, rfl, gno hg4⟩ ?_
      refine JL.no ⟨_, rfl, gno hg4⟩ ?_
      refine JL.no ⟨_, rfl, gno hg4⟩ ?_
      refine JL.no ⟨_, rfl, gno hg4⟩ ?_
      refine JL.no ⟨_, rfl, gno hg4⟩ ?_
      refine JL.no ⟨_, rfl, gno hg4⟩ ?_
      refine JL.no ⟨_, rfl, gno hg4⟩ ?_
      refine JL.no ⟨_, rfl, gno hg4⟩ ?_
      refine JL.go trivial (RX.pick_f rfl hg4) ?_
      refine JL.nil ?_
      first
      | exact hk2 (decide (x < n)) _ _ ⟨rfl, rfl, rfl, trivial⟩ ⟨rfl, trivial⟩ ⟨⟨fun h => ⟨by omega, x, hx, of_decide_eq_true h⟩, fun h => .inr ⟨x, hx, by have := of_decide_eq_false h; omega⟩⟩, H⟩
      | exact hk2 false _ _ ⟨rfl, rfl, rfl, trivial⟩ ⟨rfl, trivial⟩ ⟨⟨fun h => (by cases h), fun _ => .inl (by have := of_decide_eq_false hg4; omega)⟩, H⟩
  · skip
    clear H
    rintro q ρ w ⟨⟨hq1, hq2⟩, H⟩
    refine J.cond rfl (fun hq => ?_) (fun hq => ?_)
    · skip
      obtain ⟨hlt2, x, hx, hxn⟩ := hq1 hq
      refine J.skip ?_
      refine J.block ?_
      refine J.region ?_
      refine JL.go trivial (RX.movev (v := Value.int _ _) rfl) ?_
      refine JL.go trivial (RX.add rfl rfl (w_i64 (r := ((i + 1 : Nat) : Int)) (by omega) (by omega) (by omega))) ?_
      refine JL.go trivial (RX.assignv (v := Value.int _ _) rfl) ?_
      refine JL.nil ?_
      refine J.inBlock ?_
      refine IH (i + 1) _ _ (by omega) ⟨rfl, rfl, trivial⟩ ⟨rfl, trivial⟩ ⟨⟨by omega, fun y hy => ?_⟩, H⟩
      rw [take_succ_get hx] at hy
      rcases List.mem_append.1 hy with hy | hy
      · exact hlt y hy
      · rw [List.mem_singleton.1 hy]; exact hxn
    · skip
      have hstop := hq2 hq
      have hmem := mem_at up hlt hstop
      clear IH
      refine J.exit rfl ?_
      refine J.seq ?_
      refine J.seq ?_
      refine J.join (ι := Bool) (fun q => [(50, .bool q)]) (fun q w => (q = true ↔ n ∈ zs) ∧ Hp w0 w ([(b, cel [.slice p zs.length c, .int .i64 m] 49)] :: sl :: F)) [(0, _), (1, _), (5, _)] ⟨rfl, rfl, rfl, trivial⟩ ?_ ?_
      rotate_left
      · skip
        intro k2 hk2
        refine J.region ?_
        refine JL.go trivial (RX.movev (v := Value.int _ _) rfl) ?_
        refine JL.go trivial (RX.movev (v := Value.pointer _) rfl) ?_
        refine JL.go trivial (RX.nilCheck rfl) ?_
        refine JL.go trivial (RX.fieldAddr rfl fo49_0 rfl) ?_
        refine JL.go trivial (RX.load H rfl (i := 0) (v := .slice p zs.length c) rfl rfl one22) ?_
        refine JL.go trivial (RX.len_slice rfl (by rw [sl22]; rfl) rfl) ?_
        refine JL.go trivial (RX.lt rfl rfl) ?_
        refine JL.go trivial (RX.movev (v := Value.bool _) rfl) ?_
        refine JL.splitS 40 rfl (fun hg6 => ?_) (fun hg6 => ?_)
        · skip
          first | have hg6p := of_decide_eq_true hg6 | skip
          have hg6q := of_decide_eq_true hg6
          obtain ⟨x, hx⟩ : ∃ x, zs[i]? = some x := ⟨_, List.getElem?_eq_getElem (by omega)⟩
          obtain ⟨pb, po, rfl, _⟩ := (own.slAt (L := F)).some (by rw [intsV_len]; omega)
          refine JL.go ⟨_, rfl, hg6⟩ (RX.movev (v := Value.pointer _) rfl) ?_
          refine JL.go ⟨_, rfl, hg6⟩ (RX.nilCheck rfl) ?_
          refine JL.go ⟨_, rfl, hg6⟩ (RX.fieldAddr rfl fo49_0 rfl) ?_
          refine JL.go ⟨_, rfl, hg6⟩ (RX.load H rfl (i := 0) (v := .slice (some ⟨pb, po, none⟩) zs.length c) rfl rfl one22) ?_
          refine JL.go ⟨_, rfl, hg6⟩ (RX.movev (v := Value.int _ _) rfl) ?_
          refine JL.go ⟨_, rfl, hg6⟩ (RX.indexAddr rfl rfl sl22 (by omega) (by omega) (o' := po + i) (by omega)) ?_
          refine JL.go ⟨_, rfl, hg6⟩ (RX.loadS H (SlAt.cons own.slAt) rfl (j := i) rfl (intsV_get hx) one3) ?_
          refine JL.go ⟨_, rfl, hg6⟩ (RX.movev (v := Value.int _ _) rfl) ?_
          refine JL.go ⟨_, rfl, hg6⟩ (RX.eq rfl rfl) ?_
          refine JL.go trivial (RX.pick_t rfl hg6) ?_
          refine JL.nil ?_
          first
          | exact hk2 (decide (x = n)) _ _ ⟨rfl, rfl, rfl, trivial⟩ ⟨rfl, trivial⟩ ⟨by rw [hmem, hx, decide_eq_true_eq]; exact ⟨fun h => by rw [h], fun h => Option.some.inj h⟩, H⟩
          | exact hk2 false _ _ ⟨rfl, rfl, rfl, trivial⟩ ⟨rfl, trivial⟩ ⟨by rw [hmem, List.getElem?_eq_none (by have := of_decide_eq_false hg6; omega)]; exact ⟨fun h => (by cases h), fun h => (by cases h)⟩, H⟩
        · skip
          first | have hg6p := of_decide_eq_false hg6 | skip
          refine JL.no ⟨_, rfl, gno hg6⟩ ?_
          refine JL.no ⟨_, rfl, gno hg6⟩ ?_
          refine JL.no ⟨_, rfl, gno hg6⟩ ?_
          refine JL.no ⟨_, rfl, gno hg6⟩ ?_
          refine JL.no ⟨_, rfl, gno hg6⟩ ?_
          refine JL.no ⟨_, rfl, gno hg6⟩ ?_
          refine JL.no ⟨_, rfl, gno hg6⟩ ?_
          refine JL.no ⟨_, rfl, gno hg6⟩ ?_
          refine JL.no ⟨_, rfl, gno hg6⟩ ?_
          refine JL.go trivial (RX.pick_f rfl hg6) ?_
          refine JL.nil ?_
          first
          | exact hk2 (decide (x = n)) _ _ ⟨rfl, rfl, rfl, trivial⟩ ⟨rfl, trivial⟩ ⟨by rw [hmem, hx, decide_eq_true_eq]; exact ⟨fun h => by rw [h], fun h => Option.some.inj h⟩, H⟩
          | exact hk2 false _ _ ⟨rfl, rfl, rfl, trivial⟩ ⟨rfl, trivial⟩ ⟨by rw [hmem, List.getElem?_eq_none (by have := of_decide_eq_false hg6; omega)]; exact ⟨fun h => (by cases h), fun h => (by cases h)⟩, H⟩
      · skip
        clear H
        rintro q ρ w ⟨hqm, H⟩
        refine J.cond rfl (fun hin => ?_) (fun hin => ?_)
        · skip
          refine J.seq ?_
          refine J.region ?_
          refine JL.go trivial (RX.assign) ?_
          refine JL.nil ?_
          refine J.ret1 (v := Value.int _ _) Tryd.func43 rfl rfl ?_
          exact ⟨_, rfl, rfl, ⟨p, c, sl, zs⟩, m, ⟨own, up, rng⟩, .inl ⟨hqm.1 hin, rfl, rfl⟩, H⟩
        · skip
          have hnm : n ∉ zs := fun h => by rw [hqm.2 h] at hin; cases hin
          have hstop2 : i = zs.length ∨ ∃ x, zs[i]? = some x ∧ n < x := by
            rcases hstop with h | ⟨x, hx, hnx⟩
            · exact .inl h
            · refine .inr ⟨x, hx, ?_⟩
              have hne : n ≠ x := fun e => hnm (hmem.2 (by rw [hx, e]))
              omega
          refine J.skip ?_
          refine J.seq ?_
          refine J.region ?_
          refine JL.go trivial (RX.movev (v := Value.pointer _) rfl) ?_
          refine JL.go trivial (RX.movev (v := Value.pointer _) rfl) ?_
          refine JL.go trivial (RX.nilCheck rfl) ?_
          refine JL.go trivial (RX.fieldAddr rfl fo49_0 rfl) ?_
          refine JL.go trivial (RX.load H rfl (i := 0) (v := .slice p zs.length c) rfl rfl one22) ?_
          refine JL.does trivial (EX.buildSlice1 H elI rfl rfl) ?_
          rintro _ w ⟨bz, rfl, H⟩
          refine JL.does trivial (EX.append (ys := [.int .i64 0]) (L' := fun s' => [(bz, cel [.int .i64 0] 3)] :: [(b, cel [.slice p zs.length c, .int .i64 m] 49)] :: s' :: F) H elI rfl rfl (i := 2) rfl own (SlAt.here rfl) rfl (intsV_cell [0]) (by decide) (by omega) (by omega) (fun _ => rfl)) ?_
          rintro _ w ⟨p2, c2, s2, rfl, ho2, H⟩
          obtain ⟨g, l2, rfl, rfl, hnc2, hl2, ht2⟩ := ho2.ptr (by omega)
          refine JL.go trivial (RX.nilCheck rfl) ?_
          refine JL.go trivial (RX.fieldAddr rfl fo49_0 rfl) ?_
          refine JL.does trivial (EX.store (v := Value.slice _ _ _) H rfl rfl (i := 1) (l' := [.slice (some ⟨g, 0, none⟩) (zs.length + 1) c2, .int .i64 m]) rfl rfl (by simp) sz22 rfl rfl) ?_
          rintro _ w H
          refine JL.nil ?_
          refine J.seq ?_
          refine J.seq ?_
          refine J.region ?_
          refine JL.go trivial (RX.movev (v := Value.pointer _) rfl) ?_
          refine JL.go trivial (RX.nilCheck rfl) ?_
          refine JL.go trivial (RX.fieldAddr rfl fo49_0 rfl) ?_
          refine JL.go trivial (RX.load H rfl (i := 1) (v := .slice (some ⟨g, 0, none⟩) (zs.length + 1) c2) rfl rfl one22) ?_
          refine JL.go trivial (RX.len_slice rfl (by rw [sl22]; rfl) rfl) ?_
          refine JL.go trivial (RX.sub rfl rfl (w_i64 (r := (zs.length : Int)) (by omega) (by omega) (by omega))) ?_
          refine JL.go trivial (RX.assignv (v := Value.int _ _) rfl) ?_
          refine JL.nil ?_
          refine J.block ?_
          refine J.loop (ι := Nat × Int × List Value) (S := fun z => [(6, .int .i64 (z.1 : Nat))]) (Φ := fun z w => (i ≤ z.1 ∧ z.1 ≤ zs.length ∧ OwnSl 3 1 (some ⟨g, 0, none⟩) (zs.length + 1) c2 (intsV (zs.take z.1 ++ z.2.1 :: zs.drop z.1)) [(g, cel z.2.2 3)]) ∧ Hp w0 w ([(bz, cel [.int .i64 0] 3)] :: [(b, cel [.slice (some ⟨g, 0, none⟩) (zs.length + 1) c2, .int .i64 m] 49)] :: [(g, cel (z.2.2) 3)] :: F)) (μ := fun z => z.1) (C := [(0, _), (1, _), (5, _)]) (zs.length, 0, l2) ⟨rfl, rfl, rfl, trivial⟩ ⟨rfl, trivial⟩ ?_ ?_
          · exact ⟨⟨hi, by simp, by simp only [List.take_length, List.drop_length]; rw [intsV_app]; exact ho2⟩, H⟩
          clear H ho2
          rintro ⟨k, q1, l⟩ ρ w ⟨⟨hk, hk2, ho⟩, H⟩ IH
          simp only at hk hk2 ho H
          dsimp only
          refine J.seq ?_
          refine J.seq ?_
          refine J.region ?_
          refine JL.go trivial (RX.movev (v := Value.int _ _) rfl) ?_
          refine JL.go trivial (RX.movev (v := Value.int _ _) rfl) ?_
          refine JL.go trivial (RX.gt rfl rfl) ?_
          refine JL.nil ?_
          refine J.cond_d rfl (fun hgt => ?_) (fun hgt => ?_)
          · skip
            obtain ⟨k1, rfl⟩ : ∃ k1, k = k1 + 1 := ⟨k - 1, by omega⟩
            obtain ⟨y, hy⟩ : ∃ y, zs[k1]? = some y := ⟨_, List.getElem?_eq_getElem (by omega)⟩
            have hll : l.length = c2 := by
              obtain ⟨g2, l3, e1, e2, e3, e4, e5⟩ := ho.ptr (by omega)
              cases e2
              omega
            have hcl := ho.le
            refine J.skip ?_
            refine J.seq ?_
            refine J.block ?_
            refine J.any hmix fun w hs => ?_
            replace H := H.same hs; clear hs
            refine JA.stage (listed := [false, false, false, false, false, false, false, false, false, false, false, false, false, false, false]) 14 [0, 1, 2, 3, 4, 5, 6, 7, 8, 9, 10, 11, 12, 13] H (by kernel_rfl) rfl rfl ?_
            refine JI.go rfl trivial (fun w H => RX.movev (v := Value.pointer _) rfl) ?_
            refine JI.go rfl trivial (fun w H => RX.nilCheck rfl) ?_
            refine JI.go rfl trivial (fun w H => RX.fieldAddr rfl fo49_0 rfl) ?_
            refine JI.go rfl trivial (fun w H => RX.load H rfl (i := 1) (v := .slice (some ⟨g, 0, none⟩) (zs.length + 1) c2) rfl rfl one22) ?_
            refine JI.go rfl trivial (fun w H => RX.movev (v := Value.int _ _) rfl) ?_
            refine JI.go rfl trivial (fun w H => RX.movev (v := Value.pointer _) rfl) ?_
            refine JI.go rfl trivial (fun w H => RX.nilCheck rfl) ?_
            refine JI.go rfl trivial (fun w H => RX.fieldAddr rfl fo49_0 rfl) ?_
            refine JI.go rfl trivial (fun w H => RX.load H rfl (i := 1) (v := .slice (some ⟨g, 0, none⟩) (zs.length + 1) c2) rfl rfl one22) ?_
            refine JI.go rfl trivial (fun w H => RX.movev (v := Value.int _ _) rfl) ?_
            refine JI.go rfl trivial (fun w H => RX.sub rfl rfl (w_i64 (r := (k1 : Int)) (by omega) (by omega) (by omega))) ?_
            refine JI.go rfl trivial (fun w H => RX.indexAddr rfl rfl sl22 (by omega) (by omega) (o' := k1) (by omega)) ?_
            refine JI.go rfl trivial (fun w H => RX.loadS H (SlAt.cons (SlAt.cons ho.slAt)) rfl (j := k1) (by omega) (shift_get hy) one3) ?_
            refine JI.go rfl trivial (fun w H => RX.indexAddr rfl rfl sl22 (by omega) (by omega) (o' := k1 + 1) (by omega)) ?_
            refine JI.nil fun w H => ?_
            refine JL.does trivial (EX.store (v := Value.int _ _) H rfl rfl (i := 2) rfl rfl (by omega) sz3 rfl rfl) ?_
            rintro _ w H
            refine JL.nil ?_
            refine J.inBlock ?_
            refine J.region ?_
            refine JL.go trivial (RX.movev (v := Value.int _ _) rfl) ?_
            refine JL.go trivial (RX.sub rfl rfl (w_i64 (r := (k1 : Int)) (by omega) (by omega) (by omega))) ?_
            refine JL.go trivial (RX.assignv (v := Value.int _ _) rfl) ?_
            refine JL.nil ?_
            refine IH (k1, y, l.set (k1 + 1) (.int .i64 y)) _ _ (by simp only; omega) ⟨rfl, rfl, rfl, trivial⟩ ⟨rfl, trivial⟩ ⟨⟨by simp only; omega, by simp only; omega, ?_⟩, H⟩
            simp only
            rw [← shift_step (q := q1) hy]
            exact ho.set
          · skip
            have hki : k = i := by omega
            have hll : l.length = c2 := by
              obtain ⟨g2, l3, e1, e2, e3, e4, e5⟩ := ho.ptr (by omega)
              cases e2
              omega
            have hcl := ho.le
            refine J.exit rfl ?_
            refine J.seq ?_
            refine J.region ?_
            refine JL.go trivial (RX.movev (v := Value.pointer _) rfl) ?_
            refine JL.go trivial (RX.nilCheck rfl) ?_
            refine JL.go trivial (RX.fieldAddr rfl fo49_0 rfl) ?_
            refine JL.go trivial (RX.load H rfl (i := 1) (v := .slice (some ⟨g, 0, none⟩) (zs.length + 1) c2) rfl rfl one22) ?_
            refine JL.go trivial (RX.movev (v := Value.int _ _) rfl) ?_
            refine JL.go trivial (RX.movev (v := Value.int _ _) rfl) ?_
            refine JL.go trivial (RX.indexAddr rfl rfl sl22 (by omega) (by omega) (o' := k) (by omega)) ?_
            refine JL.does trivial (EX.store (v := Value.int _ _) H rfl rfl (i := 2) rfl rfl (by omega) sz3 rfl rfl) ?_
            rintro _ w H
            refine JL.nil ?_
            refine J.seq ?_
            refine J.region ?_
            refine JL.go trivial (RX.movev (v := Value.pointer _) rfl) ?_
            refine JL.go trivial (RX.nilCheck rfl) ?_
            refine JL.go trivial (RX.fieldAddr rfl fo49_1 rfl) ?_
            refine JL.go trivial (RX.load H rfl (i := 1) (v := .int .i64 m) rfl rfl one3) ?_
            refine JL.go trivial (RX.add rfl rfl (w_i64 (r := m + 1) (by omega) (by omega) (by omega))) ?_
            refine JL.go trivial (RX.nilCheck rfl) ?_
            refine JL.go trivial (RX.fieldAddr rfl fo49_1 rfl) ?_
            refine JL.does trivial (EX.store (v := Value.int _ _) H rfl rfl (i := 1) rfl rfl (by simp) sz3 rfl rfl) ?_
            rintro _ w H
            refine JL.nil ?_
            refine J.seq ?_
            refine J.region ?_
            refine JL.go trivial (RX.assign) ?_
            refine JL.nil ?_
            refine J.ret1 (v := Value.int _ _) Tryd.func43 rfl rfl ?_
            have H0 := H
            subst hki
            have H := H0
            clear H0
            have ho3 := ho.set (o := k) (v := .int .i64 n)
            rw [shift_set hk2] at ho3
            have hml := mid_len (n := n) hk2
            rw [← hml] at ho3 H
            refine ⟨_, rfl, rfl, ⟨some ⟨g, 0, none⟩, c2, [(g, cel (l.set k (.int .i64 n)) 3)], zs.take k ++ n :: zs.drop k⟩, m + 1, ⟨ho3, ins_up up hlt hstop2, fun x hx => ?_⟩, .inr ⟨hnm, ins_perm, rfl⟩, H.drop⟩
            have hx2 := ins_perm.subset hx
            rcases List.mem_append.1 hx2 with h | h
            · exact rng x h
            · rw [List.mem_singleton.1 h]; exact ⟨hn, hn2⟩

def InR (n : Int) : Prop := 1 ≤ n ∧ n ≤ 16384
theorem not_in {n : Int} (h : ¬ InR n) : n < 1 ∨ 16384 < n := by unfold InR at h; omega
def ResAt (n k : Int) (a b q : Nat) : Prop := (InR n ∧ q = 0 ∧ cn a = (rootN n k).1 ∧ cn b = (rootN n k).2) ∨ (¬ InR n ∧ q = 7 ∧ a = 0 ∧ b = 0)
theorem ResAt.same {n k : Int} {a b q c d q' : Nat} (h : ResAt n k a b q) (h2 : ResAt n k c d q') : (cn a = cn c ∧ cn b = cn d) ∧ q = q' := by
  rcases h with ⟨_, rfl, h1, h3⟩ | ⟨hn, rfl, rfl, rfl⟩
  · rcases h2 with ⟨_, rfl, h2, h4⟩ | ⟨hn, _⟩
    · exact ⟨⟨h1.trans h2.symm, h3.trans h4.symm⟩, rfl⟩
    · exact absurd ‹_› hn
  · rcases h2 with ⟨hi, _⟩ | ⟨_, rfl, rfl, rfl⟩
    · exact absurd hi hn
    · exact ⟨⟨rfl, rfl⟩, rfl⟩
theorem ResAt.le {n k : Int} {a b q : Nat} (h : ResAt n k a b q) : q ≤ 19 := by
  rcases h with ⟨_, rfl, _⟩ | ⟨_, rfl, _⟩ <;> decide
def ResL (n : Int) (len : Nat) (xs : List Value) (q : Nat) : Prop := (InR n ∧ q = 0 ∧ len = n.toNat ∧ RowOf n xs) ∨ (¬ InR n ∧ q = 7 ∧ len = 0 ∧ xs = [])
theorem ResL.le {n : Int} {l q : Nat} {xs : List Value} (h : ResL n l xs q) : q ≤ 19 := by
  rcases h with ⟨_, rfl, _⟩ | ⟨_, rfl, _⟩ <;> decide
theorem ResL.same {n : Int} {l q l' q' : Nat} {xs ys : List Value} (h : ResL n l xs q) (h2 : ResL n l' ys q') : AlikeL xs ys ∧ q = q' ∧ l = l' ∧ xs.length = l ∧ l ≤ 16384 := by
  rcases h with ⟨hi, rfl, rfl, h1⟩ | ⟨hn, rfl, rfl, rfl⟩
  · rcases h2 with ⟨_, rfl, rfl, h2⟩ | ⟨hn, _⟩
    · refine ⟨h1.alike h2, rfl, rfl, h1.1, by have := hi.2; omega⟩
    · exact absurd hi hn
  · rcases h2 with ⟨hi, _⟩ | ⟨_, rfl, rfl, rfl⟩
    · exact absurd hi hn
    · exact ⟨⟨rfl, fun k hk => absurd hk (by simp)⟩, rfl, rfl, rfl, by omega⟩
def AskedA (n : Int) (s s' : TS) : Prop := (InR n ∧ Asked n s s') ∨ (¬ InR n ∧ s' = s)
def RAskA (n : Int) (r r' : RS) (m m' : Int) : Prop := (InR n ∧ RAsk n r r' m m') ∨ (¬ InR n ∧ r' = r ∧ m' = m)
structure Both (s : TS) (r : RS) : Prop where
  ts : s.ok
  rs : r.ok
  p : r.zs.Perm s.keys
theorem both_ask {n m' : Int} {s s' : TS} {r r' : RS} (h : Both s r) (ha : AskedA n s s') (hr : RAskA n r r' s.m m') (hs : s'.ok) (hr2 : r'.ok) : Both s' r' ∧ m' = s'.m ∧ s'.m ≤ s.m + 1 := by
  rcases ha with ⟨hi, ha⟩ | ⟨hn, rfl⟩
  · rcases hr with ⟨_, hr⟩ | ⟨hn, _⟩
    · rcases ha with ⟨h1, rfl⟩ | ⟨h1, h2, h3⟩
      · rcases hr with ⟨_, rfl, rfl⟩ | ⟨h4, _⟩
        · exact ⟨h, rfl, by omega⟩
        · exact absurd (h.p.mem_iff.2 h1) h4
      · rcases hr with ⟨h4, _⟩ | ⟨_, h4, rfl⟩
        · exact absurd (h.p.mem_iff.1 h4) h1
        · exact ⟨⟨hs, hr2, by rw [h2]; exact h4.trans (h.p.append_right [n])⟩, h3.symm, by omega⟩
    · exact absurd hi hn
  · rcases hr with ⟨hi, _⟩ | ⟨_, rfl, rfl⟩
    · exact absurd hi hn
    · exact ⟨h, rfl, by omega⟩
theorem filt_len {zs : List Int} (h : zs.Nodup) (n : Int) : ((zs.filter fun x => x != n).length < zs.length) = (n ∈ zs) := by
  rw [← h.erase_eq_filter]
  by_cases hn : n ∈ zs
  · have := List.length_erase_of_mem hn
    have hp := List.length_pos_of_mem hn
    exact propext ⟨fun _ => hn, fun _ => by omega⟩
  · rw [List.erase_of_not_mem hn]
    exact propext ⟨fun h => by omega, fun h => absurd h hn⟩
theorem filt_take {zs : List Int} {i : Nat} {n x : Int} (hx : zs[i]? = some x) : (zs.take (i + 1)).filter (fun y => y != n) = (zs.take i).filter (fun y => y != n) ++ (if x = n then [] else [x]) := by
  rw [take_succ_get hx, List.filter_append]
  congr 1
  by_cases h : x = n
  · rw [if_pos h, h]; simp
  · rw [if_neg h]; simp [h]
theorem same_rows {xs ys : List Int} (hx : xs.Pairwise (· ≤ ·)) (hy : ys.Pairwise (· < ·)) (hp : xs.Perm ys) : xs = ys :=
  List.Perm.eq_of_pairwise (le := fun a b : Int => a ≤ b) (fun a b _ _ h1 h2 => by omega) hx (hy.imp fun h => by omega) hp

theorem rask_e {w0 w : World} {F : List Seg} (H : Hp w0 w F) {p : Value} {n : Int} (hn : ¬ InR n) : Ret Tryd.prog 43 [p, .int .i64 n] w fun v w' => v = .int .i64 7 ∧ Hp w0 w' F := by
  refine Calls.of_J (n := 99) Tryd.func43 rfl rfl rfl ?_
  refine J.seq ?_
  refine J.region ?_
  refine JL.go trivial (RX.assign) ?_
  refine JL.nil ?_
  refine J.seq ?_
  refine J.seq ?_
  have hno := not_in hn
  refine J.region ?_
  refine JL.go trivial (RX.movev (v := Value.int _ _) rfl) ?_
  refine JL.go trivial (RX.lt rfl rfl) ?_
  refine JL.go trivial (RX.movev (v := Value.bool _) rfl) ?_
  refine JL.splitS 9 rfl (fun h1 => ?_) (fun h1 => ?_)
  · skip
    first | have h1p := of_decide_eq_true h1 | skip
    refine JL.no ⟨_, rfl, gno h1⟩ ?_
    refine JL.no ⟨_, rfl, gno h1⟩ ?_
    refine JL.go trivial (RX.pick_t rfl h1) ?_
    refine JL.nil ?_
    refine J.cond_t rfl rfl ?_
    refine J.seq ?_
    refine J.region ?_
    refine JL.go trivial (RX.assign) ?_
    refine JL.nil ?_
    refine J.ret1 (v := Value.int _ _) Tryd.func43 rfl rfl ?_
    exact ⟨_, rfl, rfl, H⟩
  · skip
    first | have h1p := of_decide_eq_false h1 | skip
    have h1q := of_decide_eq_false h1
    refine JL.go ⟨_, rfl, h1⟩ (RX.movev (v := Value.int _ _) rfl) ?_
    refine JL.go ⟨_, rfl, h1⟩ (RX.gt rfl rfl) ?_
    refine JL.go trivial (RX.pick_f rfl h1) ?_
    refine JL.nil ?_
    refine J.cond_d rfl (fun h2 => ?_) (fun h2 => ?_)
    · skip
      refine J.seq ?_
      refine J.region ?_
      refine JL.go trivial (RX.assign) ?_
      refine JL.nil ?_
      refine J.ret1 (v := Value.int _ _) Tryd.func43 rfl rfl ?_
      exact ⟨_, rfl, rfl, H⟩
    · skip
      exfalso
      omega
theorem rAt_b {w0 w : World} {F : List Seg} {b : Nat} {m : Int} {r : RS} (H : Hp w0 w (r.rb b m :: r.sl :: F)) (ok : r.ok) {n k : Int} (hn : 1 ≤ n) (hn2 : n ≤ 16384) (hm0 : 0 ≤ m) (hm : m < 9223372036854775807) (hk : i64ok k) : Ret Tryd.prog 31 [.pointer (some ⟨b, 0, none⟩), .int .i64 n, .int .i64 k] w fun v w' => ∃ r' m' x y, v = .tuple #[.complex .f64 x y, .int .i64 0] ∧ cn x = (rootN n k).1 ∧ cn y = (rootN n k).2 ∧ r'.ok ∧ RAsk n r r' m m' ∧ Hp w0 w' (r'.rb b m' :: r'.sl :: F) := by
  refine Calls.of_J (n := 20) Tryd.func31 rfl rfl rfl ?_
  refine J.seq ?_
  refine J.region ?_
  refine JL.go trivial (RX.assign) ?_
  refine JL.go trivial (RX.assign) ?_
  refine JL.nil ?_
  refine J.seq ?_
  refine J.region ?_
  refine JL.go trivial (RX.movev (v := Value.pointer _) rfl) ?_
  refine JL.go trivial (RX.movev (v := Value.int _ _) rfl) ?_
  refine JL.does trivial (EX.call rfl cl43 rfl ((rask_b H ok hn hn2 hm0 hm))) ?_
  rintro _ w ⟨rfl, r1, m1, ok1, hask, H⟩
  have e0 := Int.emod_nonneg k (show n ≠ 0 by omega)
  have e1 := Int.emod_lt_of_pos k (show 0 < n by omega)
  refine JL.go trivial (RX.assignv (v := Value.int _ _) rfl) ?_
  refine JL.nil ?_
  refine J.seq ?_
  refine J.seq ?_
  refine J.region ?_
  refine JL.go trivial (RX.movev (v := Value.int _ _) rfl) ?_
  refine JL.go trivial (RX.ne rfl rfl) ?_
  refine JL.nil ?_
  refine J.cond_f rfl (decide_eq_false (fun h => h rfl)) ?_
  refine J.skip ?_
  refine J.seq ?_
  refine J.region ?_
  refine JL.go trivial (RX.movev (v := Value.int _ _) rfl) ?_
  refine JL.go trivial (RX.movev (v := Value.int _ _) rfl) ?_
  refine JL.go trivial (RX.movev (v := Value.int _ _) rfl) ?_
  refine JL.does trivial (EX.call rfl cl45 rfl ((rMod_b H hk (by omega) (by omega)))) ?_
  rintro _ w ⟨rfl, H⟩
  refine JL.does trivial (EX.call rfl cl44 rfl ((rRoot_b H hn (by omega) (by constructor <;> omega)))) ?_
  rintro _ w ⟨x, y, rfl, hx, hy, H⟩
  rw [rootN_mod] at hx hy
  refine JL.go trivial (RX.assignv (v := Value.complex _ _ _) rfl) ?_
  refine JL.go trivial (RX.assign) ?_
  refine JL.nil ?_
  refine J.ret2 (v := Value.complex _ _ _) (x := Value.int _ _) Tryd.func31 rfl rfl rfl ?_
  exact ⟨_, rfl, r1, m1, x, y, rfl, hx, hy, ok1, hask, H⟩
theorem rAt_e {w0 w : World} {F : List Seg} (H : Hp w0 w F) {p : Nat} {n : Int} (hn : ¬ InR n) {k : Int} : Ret Tryd.prog 31 [.pointer (some ⟨p, 0, none⟩), .int .i64 n, .int .i64 k] w fun v w' => v = .tuple #[.complex .f64 0 0, .int .i64 7] ∧ Hp w0 w' F := by
  refine Calls.of_J (n := 20) Tryd.func31 rfl rfl rfl ?_
  refine J.seq ?_
  refine J.region ?_
  refine JL.go trivial (RX.assign) ?_
  refine JL.go trivial (RX.assign) ?_
  refine JL.nil ?_
  refine J.seq ?_
  refine J.region ?_
  refine JL.go trivial (RX.movev (v := Value.pointer _) rfl) ?_
  refine JL.go trivial (RX.movev (v := Value.int _ _) rfl) ?_
  refine JL.does trivial (EX.call rfl cl43 rfl ((rask_e H hn))) ?_
  rintro _ w ⟨rfl, H⟩
  refine JL.go trivial (RX.assignv (v := Value.int _ _) rfl) ?_
  refine JL.nil ?_
  refine J.seq ?_
  refine J.seq ?_
  refine J.region ?_
  refine JL.go trivial (RX.movev (v := Value.int _ _) rfl) ?_
  refine JL.go trivial (RX.ne rfl rfl) ?_
  refine JL.nil ?_
  refine J.cond_t rfl (decide_eq_true (by decide)) ?_
  refine J.seq ?_
  refine J.region ?_
  refine JL.go trivial (RX.movev (v := Value.int _ _) rfl) ?_
  refine JL.go trivial (RX.assign) ?_
  refine JL.go trivial (RX.assignv (v := Value.int _ _) rfl) ?_
  refine JL.nil ?_
  refine J.ret2 (v := Value.complex _ _ _) (x := Value.int _ _) Tryd.func31 rfl rfl rfl ?_
  exact ⟨_, rfl, rfl, H⟩
theorem rList_b {w0 w : World} {F : List Seg} {b : Nat} {m : Int} {r : RS} (H : Hp w0 w (r.rb b m :: r.sl :: F)) (ok : r.ok) {n : Int} (hn : 1 ≤ n) (hn2 : n ≤ 16384) (hm0 : 0 ≤ m) (hm : m < 9223372036854775807) : Ret Tryd.prog 32 [.pointer (some ⟨b, 0, none⟩), .int .i64 n] w fun v w' => ∃ r' m' p c xs sl, v = .tuple #[.slice p n.toNat c, .int .i64 0] ∧ OwnSl 26 1 p n.toNat c xs sl ∧ RowOf n xs ∧ r'.ok ∧ RAsk n r r' m m' ∧ Hp w0 w' (sl :: r'.rb b m' :: r'.sl :: F) := by
  refine Calls.of_J (n := 17) Tryd.func32 rfl rfl rfl ?_
  refine J.seq ?_
  refine J.region ?_
  refine JL.go trivial (RX.assign) ?_
  refine JL.go trivial (RX.assign) ?_
  refine JL.nil ?_
  refine J.seq ?_
  refine J.region ?_
  refine JL.go trivial (RX.movev (v := Value.pointer _) rfl) ?_
  refine JL.go trivial (RX.movev (v := Value.int _ _) rfl) ?_
  refine JL.does trivial (EX.call rfl cl43 rfl ((rask_b H ok hn hn2 hm0 hm))) ?_
  rintro _ w ⟨rfl, r1, m1, ok1, hask, H⟩
  refine JL.go trivial (RX.assignv (v := Value.int _ _) rfl) ?_
  refine JL.nil ?_
  refine J.seq ?_
  refine J.seq ?_
  refine J.region ?_
  refine JL.go trivial (RX.movev (v := Value.int _ _) rfl) ?_
  refine JL.go trivial (RX.ne rfl rfl) ?_
  refine JL.nil ?_
  refine J.cond_f rfl (decide_eq_false (fun h => h rfl)) ?_
  refine J.skip ?_
  refine J.seq ?_
  refine J.region ?_
  refine JL.go trivial (RX.movev (v := Value.int _ _) rfl) ?_
  refine JL.does trivial (EX.call rfl cl46 rfl ((rAll_b H hn hn2))) ?_
  rintro _ w ⟨p, c, xs, sl, rfl, ho, hx, H⟩
  refine JL.go trivial (RX.extract rfl rfl) ?_
  refine JL.go trivial (RX.extract rfl rfl) ?_
  refine JL.go trivial (RX.assignv (v := Value.slice _ _ _) rfl) ?_
  refine JL.go trivial (RX.assignv (v := Value.int _ _) rfl) ?_
  refine JL.nil ?_
  refine J.ret2 (v := Value.slice _ _ _) (x := Value.int _ _) Tryd.func32 rfl rfl rfl ?_
  exact ⟨_, rfl, r1, m1, p, c, xs, sl, rfl, ho, hx, ok1, hask, H⟩
theorem rList_e {w0 w : World} {F : List Seg} (H : Hp w0 w F) {p : Nat} {n : Int} (hn : ¬ InR n) : Ret Tryd.prog 32 [.pointer (some ⟨p, 0, none⟩), .int .i64 n] w fun v w' => v = .tuple #[.slice none 0 0, .int .i64 7] ∧ Hp w0 w' F := by
  refine Calls.of_J (n := 17) Tryd.func32 rfl rfl rfl ?_
  refine J.seq ?_
  refine J.region ?_
  refine JL.go trivial (RX.assign) ?_
  refine JL.go trivial (RX.assign) ?_
  refine JL.nil ?_
  refine J.seq ?_
  refine J.region ?_
  refine JL.go trivial (RX.movev (v := Value.pointer _) rfl) ?_
  refine JL.go trivial (RX.movev (v := Value.int _ _) rfl) ?_
  refine JL.does trivial (EX.call rfl cl43 rfl ((rask_e H hn))) ?_
  rintro _ w ⟨rfl, H⟩
  refine JL.go trivial (RX.assignv (v := Value.int _ _) rfl) ?_
  refine JL.nil ?_
  refine J.seq ?_
  refine J.seq ?_
  refine J.region ?_
  refine JL.go trivial (RX.movev (v := Value.int _ _) rfl) ?_
  refine JL.go trivial (RX.ne rfl rfl) ?_
  refine JL.nil ?_
  refine J.cond_t rfl (decide_eq_true (by decide)) ?_
  refine J.seq ?_
  refine J.region ?_
  refine JL.go trivial (RX.movev (v := Value.int _ _) rfl) ?_
  refine JL.go trivial (RX.assign) ?_
  refine JL.go trivial (RX.assignv (v := Value.int _ _) rfl) ?_
  refine JL.nil ?_
  refine J.ret2 (v := Value.slice _ _ _) (x := Value.int _ _) Tryd.func32 rfl rfl rfl ?_
  exact ⟨_, rfl, rfl, H⟩
theorem rDrop_b {w0 w : World} {F : List Seg} {b : Nat} {m : Int} {r : RS} (H : Hp w0 w (r.rb b m :: r.sl :: F)) (ok : r.ok) {n : Int} : Ret Tryd.prog 33 [.pointer (some ⟨b, 0, none⟩), .int .i64 n] w fun v w' => ∃ r' : RS, v = .bool (decide (n ∈ r.zs)) ∧ r'.ok ∧ r'.zs.Perm (r.zs.erase n) ∧ Hp w0 w' (r'.rb b m :: r'.sl :: F) := by
  refine Calls.of_J (n := 49) Tryd.func33 rfl rfl rfl ?_
  refine J.seq ?_
  refine J.region ?_
  refine JL.go trivial (RX.assign) ?_
  refine JL.nil ?_
  refine J.seq ?_
  obtain ⟨p, c, sl, zs⟩ := r
  have hlen16 := ok.len
  obtain ⟨own, up, rng⟩ := ok
  simp only at own up rng hlen16
  replace H : Hp w0 w ([(b, cel [.slice p zs.length c, .int .i64 m] 49)] :: sl :: F) := H
  refine J.region ?_
  refine JL.go trivial (RX.assign) ?_
  refine JL.nil ?_
  refine J.seq ?_
  refine J.seq ?_
  refine J.region ?_
  refine JL.go trivial (RX.assign) ?_
  refine JL.nil ?_
  refine J.block ?_
  refine J.loop (ι := Nat × Option Addr × Nat × Seg) (S := fun z => [(6, .int .i64 (z.1 : Nat)), (5, .slice z.2.1 ((zs.take z.1).filter fun y => y != n).length z.2.2.1)]) (Φ := fun z w => (z.1 ≤ zs.length ∧ OwnSl 3 1 z.2.1 ((zs.take z.1).filter fun y => y != n).length z.2.2.1 (intsV ((zs.take z.1).filter fun y => y != n)) z.2.2.2) ∧ Hp w0 w ([(b, cel [.slice p zs.length c, .int .i64 m] 49)] :: sl :: z.2.2.2 :: F)) (μ := fun z => zs.length - z.1) (C := [(0, _), (1, _)]) (0, none, 0, []) ⟨rfl, rfl, trivial⟩ ⟨rfl, rfl, trivial⟩ ?_ ?_
  · exact ⟨⟨by simp, OwnSl.nil⟩, (H.nil.pull 2 rfl).pull 2 rfl⟩
  clear H
  rintro ⟨i, p2, c2, s2⟩ ρ w ⟨⟨hi, ho⟩, H⟩ IH
  simp only at hi ho H
  have hfl : ((zs.take i).filter fun y => y != n).length ≤ i := Nat.le_trans (List.length_filter_le _ _) (by rw [List.length_take]; omega)
  dsimp only
  refine J.seq ?_
  refine J.seq ?_
  refine J.region ?_
  refine JL.go trivial (RX.movev (v := Value.int _ _) rfl) ?_
  refine JL.go trivial (RX.movev (v := Value.pointer _) rfl) ?_
  refine JL.go trivial (RX.nilCheck rfl) ?_
  refine JL.go trivial (RX.fieldAddr rfl fo49_0 rfl) ?_
  refine JL.go trivial (RX.load H rfl (i := 0) (v := .slice p zs.length c) rfl rfl one22) ?_
  refine JL.go trivial (RX.len_slice rfl (by rw [sl22]; rfl) rfl) ?_
  refine JL.go trivial (RX.lt rfl rfl) ?_
  refine JL.nil ?_
  refine J.cond_d rfl (fun hlt => ?_) (fun hlt => ?_)
  · skip
    obtain ⟨x, hx⟩ : ∃ x, zs[i]? = some x := ⟨_, List.getElem?_eq_getElem (by omega)⟩
    obtain ⟨pb, po, rfl, _⟩ := (own.slAt (L := F)).some (by rw [intsV_len]; omega)
    have hft := filt_take (n := n) hx
    refine J.skip ?_
    refine J.seq ?_
    refine J.block ?_
    refine J.seq ?_
    refine J.region ?_
    refine JL.go trivial (RX.movev (v := Value.pointer _) rfl) ?_
    refine JL.go trivial (RX.nilCheck rfl) ?_
    refine JL.go trivial (RX.fieldAddr rfl fo49_0 rfl) ?_
    refine JL.go trivial (RX.load H rfl (i := 0) (v := .slice (some ⟨pb, po, none⟩) zs.length c) rfl rfl one22) ?_
    refine JL.go trivial (RX.movev (v := Value.int _ _) rfl) ?_
    refine JL.go trivial (RX.indexAddr rfl rfl sl22 (by omega) (by omega) (o' := po + i) (by omega)) ?_
    refine JL.go trivial (RX.loadS H (SlAt.cons own.slAt) rfl (j := i) rfl (intsV_get hx) one3) ?_
    refine JL.go trivial (RX.movev (v := Value.int _ _) rfl) ?_
    refine JL.go trivial (RX.ne rfl rfl) ?_
    refine JL.nil ?_
    refine J.cond_d rfl (fun hne => ?_) (fun hne => ?_)
    · skip
      rw [if_neg hne] at hft
      refine J.region ?_
      refine JL.go trivial (RX.movev (v := Value.slice _ _ _) rfl) ?_
      refine JL.go trivial (RX.movev (v := Value.pointer _) rfl) ?_
      refine JL.go trivial (RX.nilCheck rfl) ?_
      refine JL.go trivial (RX.fieldAddr rfl fo49_0 rfl) ?_
      refine JL.go trivial (RX.load H rfl (i := 0) (v := .slice (some ⟨pb, po, none⟩) zs.length c) rfl rfl one22) ?_
      refine JL.go trivial (RX.movev (v := Value.int _ _) rfl) ?_
      refine JL.go trivial (RX.indexAddr rfl rfl sl22 (by omega) (by omega) (o' := po + i) (by omega)) ?_
      refine JL.go trivial (RX.loadS H (SlAt.cons own.slAt) rfl (j := i) rfl (intsV_get hx) one3) ?_
      refine JL.does trivial (EX.buildSlice1 H elI rfl rfl) ?_
      rintro _ w ⟨bz, rfl, H⟩
      refine JL.does trivial (EX.append (ys := [.int .i64 x]) (L' := fun s' => [(bz, cel [.int .i64 x] 3)] :: [(b, cel [.slice (some ⟨pb, po, none⟩) zs.length c, .int .i64 m] 49)] :: sl :: s' :: F) H elI rfl rfl (i := 3) rfl ho (SlAt.here rfl) rfl (intsV_cell [x]) (by decide) (by omega) (by omega) (fun _ => rfl)) ?_
      rintro _ w ⟨p3, c3, s3, rfl, ho3, H⟩
      replace ho3 : OwnSl 3 1 p3 ((zs.take (i + 1)).filter fun y => y != n).length c3 (intsV ((zs.take (i + 1)).filter fun y => y != n)) s3 := by rw [hft, List.length_append, intsV_app]; exact ho3
      rw [show ((zs.take i).filter fun y => y != n).length + 1 = ((zs.take (i + 1)).filter fun y => y != n).length by rw [hft, List.length_append]; rfl]
      refine JL.go trivial (RX.assignv (v := Value.slice _ _ _) rfl) ?_
      refine JL.nil ?_
      refine J.inBlock ?_
      refine J.region ?_
      refine JL.go trivial (RX.movev (v := Value.int _ _) rfl) ?_
      refine JL.go trivial (RX.add rfl rfl (w_i64 (r := ((i + 1 : Nat) : Int)) (by omega) (by omega) (by omega))) ?_
      refine JL.go trivial (RX.assignv (v := Value.int _ _) rfl) ?_
      refine JL.nil ?_
      exact IH (i + 1, p3, c3, s3) _ _ (by simp only; omega) ⟨rfl, rfl, trivial⟩ ⟨rfl, rfl, trivial⟩ ⟨⟨by simp only; omega, ho3⟩, H.drop⟩
    · skip
      rw [if_pos (Classical.not_not.1 hne), List.append_nil] at hft
      refine J.skip ?_
      refine J.inBlock ?_
      refine J.region ?_
      refine JL.go trivial (RX.movev (v := Value.int _ _) rfl) ?_
      refine JL.go trivial (RX.add rfl rfl (w_i64 (r := ((i + 1 : Nat) : Int)) (by omega) (by omega) (by omega))) ?_
      refine JL.go trivial (RX.assignv (v := Value.int _ _) rfl) ?_
      refine JL.nil ?_
      exact IH (i + 1, p2, c2, s2) _ _ (by simp only; omega) ⟨rfl, rfl, trivial⟩ ⟨rfl, by simp only; rw [hft]; rfl, trivial⟩ ⟨⟨by simp only; omega, by simp only; rw [hft]; exact ho⟩, H⟩
  · skip
    obtain rfl : i = zs.length := by omega
    clear IH
    refine J.exit rfl ?_
    refine J.seq ?_
    refine J.region ?_
    refine JL.go trivial (RX.movev (v := Value.slice _ _ _) rfl) ?_
    refine JL.go trivial (RX.len_slice rfl (by rw [sl22]; rfl) rfl) ?_
    refine JL.go trivial (RX.movev (v := Value.pointer _) rfl) ?_
    refine JL.go trivial (RX.nilCheck rfl) ?_
    refine JL.go trivial (RX.fieldAddr rfl fo49_0 rfl) ?_
    refine JL.go trivial (RX.load H rfl (i := 0) (v := .slice p zs.length c) rfl rfl one22) ?_
    refine JL.go trivial (RX.len_slice rfl (by rw [sl22]; rfl) rfl) ?_
    refine JL.go trivial (RX.lt rfl rfl) ?_
    refine JL.go trivial (RX.assignv (v := Value.bool _) rfl) ?_
    refine JL.nil ?_
    refine J.seq ?_
    refine J.region ?_
    refine JL.go trivial (RX.movev (v := Value.pointer _) rfl) ?_
    refine JL.go trivial (RX.movev (v := Value.slice _ _ _) rfl) ?_
    refine JL.go trivial (RX.nilCheck rfl) ?_
    refine JL.go trivial (RX.fieldAddr rfl fo49_0 rfl) ?_
    refine JL.does trivial (EX.store (v := Value.slice _ _ _) H rfl rfl (i := 0) (l' := [.slice p2 ((zs.take zs.length).filter fun y => y != n).length c2, .int .i64 m]) rfl rfl (by simp) sz22 rfl rfl) ?_
    rintro _ w H
    refine JL.nil ?_
    refine J.seq ?_
    refine J.region ?_
    refine JL.go trivial (RX.movev (v := Value.bool _) rfl) ?_
    refine JL.go trivial (RX.assignv (v := Value.bool _) rfl) ?_
    refine JL.nil ?_
    refine J.ret1 (v := Value.bool _) Tryd.func33 rfl rfl ?_
    rw [List.take_length] at ho H
    refine ⟨_, rfl, ⟨p2, c2, s2, zs.filter fun y => y != n⟩, congrArg Value.bool (decide_eq_decide.2 ?_), ⟨ho, up.sublist List.filter_sublist, fun x hx => rng x ((List.mem_filter.1 hx).1)⟩, ?_, (H.pull 1 rfl).drop⟩
    · rw [← filt_len (up_nodup up) n, List.take_length]; omega
    · rw [(up_nodup up).erase_eq_filter]
theorem sameInts_b {w0 w : World} {F : List Seg} (H : Hp w0 w F) {p q : Option Addr} {c c' : Nat} {zs : List Int} (hx : SlAt F p (intsV zs)) (hy : SlAt F q (intsV zs)) (hl : zs.length ≤ 16384) : Ret Tryd.prog 34 [.slice p zs.length c, .slice q zs.length c'] w fun v w' => v = .bool true ∧ Hp w0 w' F := by
  refine Calls.of_J (n := 26) Tryd.func34 rfl rfl rfl ?_
  refine J.seq ?_
  refine J.region ?_
  refine JL.go trivial (RX.assign) ?_
  refine JL.nil ?_
  refine J.seq ?_
  refine J.seq ?_
  refine J.region ?_
  refine JL.go trivial (RX.movev (v := Value.slice _ _ _) rfl) ?_
  refine JL.go trivial (RX.len_slice rfl (by rw [sl22]; rfl) rfl) ?_
  refine JL.go trivial (RX.movev (v := Value.slice _ _ _) rfl) ?_
  refine JL.go trivial (RX.len_slice rfl (by rw [sl22]; rfl) rfl) ?_
  refine JL.go trivial (RX.ne rfl rfl) ?_
  refine JL.nil ?_
  refine J.cond_f rfl (decide_eq_false (fun h => h rfl)) ?_
  refine J.skip ?_
  refine J.seq ?_
  refine J.seq ?_
  refine J.region ?_
  refine JL.go trivial (RX.movev (v := Value.slice _ _ _) rfl) ?_
  refine JL.go trivial (RX.len_slice rfl (by rw [sl22]; rfl) rfl) ?_
  refine JL.go trivial (RX.move) ?_
  refine JL.nil ?_
  refine J.block ?_
  refine J.loop (ι := Nat) (S := fun k => [(13, .int .i64 (k : Nat))]) (Φ := fun k w => k ≤ zs.length ∧ Hp w0 w F) (μ := fun k => zs.length - k) (C := [(0, _), (1, _), (12, _)]) 0 ⟨rfl, rfl, rfl, trivial⟩ ⟨rfl, trivial⟩ ?_ ?_
  · exact ⟨by omega, H⟩
  clear H
  rintro k ρ w ⟨hk, H⟩ IH
  refine J.seq ?_
  refine J.region ?_
  refine JL.go trivial (RX.lt rfl rfl) ?_
  refine JL.nil ?_
  refine J.seq ?_
  refine J.cond_d rfl (fun hlt => ?_) (fun hlt => ?_)
  · skip
    obtain ⟨u, hu⟩ : ∃ u, zs[k]? = some u := ⟨_, List.getElem?_eq_getElem (by omega)⟩
    obtain ⟨bx, ox, rfl, _⟩ := hx.some (by rw [intsV_len]; omega)
    obtain ⟨b2, o2, rfl, _⟩ := hy.some (by rw [intsV_len]; omega)
    refine J.skip ?_
    refine J.seq ?_
    refine J.block ?_
    refine J.seq ?_
    refine J.region ?_
    refine JL.go trivial (RX.movev (v := Value.int _ _) rfl) ?_
    refine JL.go trivial (RX.assignv (v := Value.int _ _) rfl) ?_
    refine JL.nil ?_
    refine J.seq ?_
    refine J.quietH H hmix (by kernel_rfl) ?_
    refine JQ.go trivial (fun w H => RX.movev (v := Value.slice _ _ _) rfl) ?_
    refine JQ.go trivial (fun w H => RX.movev (v := Value.int _ _) rfl) ?_
    refine JQ.go trivial (fun w H => RX.indexAddr rfl rfl sl22 (by omega) (by omega) (o' := ox + k) (by omega)) ?_
    refine JQ.go trivial (fun w H => RX.loadS H hx rfl (j := k) rfl (intsV_get hu) one3) ?_
    refine JQ.go trivial (fun w H => RX.movev (v := Value.slice _ _ _) rfl) ?_
    refine JQ.go trivial (fun w H => RX.movev (v := Value.int _ _) rfl) ?_
    refine JQ.go trivial (fun w H => RX.indexAddr rfl rfl sl22 (by omega) (by omega) (o' := o2 + k) (by omega)) ?_
    refine JQ.go trivial (fun w H => RX.loadS H hy rfl (j := k) rfl (intsV_get hu) one3) ?_
    refine JQ.go trivial (fun w H => RX.ne rfl rfl) ?_
    refine JQ.nil fun w H => ?_
    refine J.cond_f rfl (decide_eq_false (fun h => h rfl)) ?_
    refine J.skip ?_
    refine J.inBlock ?_
    refine J.region ?_
    refine JL.go trivial (RX.add rfl rfl (w_i64 (r := ((k + 1 : Nat) : Int)) (by omega) (by omega) (by omega))) ?_
    refine JL.go trivial (RX.movev (v := Value.int _ _) rfl) ?_
    refine JL.nil ?_
    exact IH (k + 1) _ _ (by omega) ⟨rfl, rfl, rfl, trivial⟩ ⟨rfl, trivial⟩ ⟨by omega, H⟩
  · skip
    refine J.exit rfl ?_
    refine J.seq ?_
    refine J.region ?_
    refine JL.go trivial (RX.assign) ?_
    refine JL.nil ?_
    refine J.ret1 (v := Value.bool _) Tryd.func34 rfl rfl ?_
    exact ⟨_, rfl, rfl, H⟩
theorem tells_b {w0 w : World} {F : List Seg} {t b : Nat} {s : TS} {r : RS} (H : Hp w0 w (s.tb t 0 :: s.mp :: s.ts :: r.rb b s.m :: r.sl :: F)) (hB : Both s r) : Ret Tryd.prog 21 [.pointer (some ⟨t, 0, none⟩), .pointer (some ⟨b, 0, none⟩)] w fun v w' => v = .bool true ∧ Hp w0 w' (s.tb t 0 :: s.mp :: s.ts :: r.rb b s.m :: r.sl :: F) := by
  refine Calls.of_J (n := 30) Tryd.func21 rfl rfl rfl ?_
  refine J.seq ?_
  refine J.region ?_
  refine JL.go trivial (RX.assign) ?_
  refine JL.nil ?_
  refine J.seq ?_
  refine J.region ?_
  refine JL.go trivial (RX.movev (v := Value.pointer _) rfl) ?_
  refine JL.does trivial (EX.call rfl cl18 rfl ((sizes_b H hB.ts))) ?_
  rintro _ w ⟨zs, pz, cz, slz, rfl, hzp, hzs, hoz, H⟩
  obtain rfl := same_rows hzs hB.rs.up (hzp.trans hB.p.symm)
  replace H := (((((H.pull 5 rfl).pull 5 rfl).pull 5 rfl).pull 5 rfl).pull 5 rfl)
  replace H : Hp w0 w (s.tb t 0 :: s.mp :: s.ts :: r.rb b s.m :: r.sl :: slz :: F) := H
  refine JL.go trivial (RX.movev (v := Value.tuple _) rfl) ?_
  refine JL.go trivial (RX.extract rfl rfl) ?_
  refine JL.go trivial (RX.extract rfl rfl) ?_
  refine JL.go trivial (RX.assignv (v := Value.slice _ _ _) rfl) ?_
  refine JL.go trivial (RX.assignv (v := Value.bool _) rfl) ?_
  refine JL.nil ?_
  refine J.seq ?_
  refine J.quietH H hmix (by kernel_rfl) ?_
  refine JQ.go trivial (fun w H => RX.movev (v := Value.bool _) rfl) ?_
  refine JQ.go trivial (fun w H => RX.movev (v := Value.bool _) rfl) ?_
  refine JQ.go ⟨_, rfl, rfl⟩ (fun w H => RX.movev (v := Value.pointer _) rfl) ?_
  refine JQ.call ⟨_, rfl, rfl⟩ (fun w H => run_callq rfl cl12 rfl) (fun w H => (Made_b H)) ?_
  refine JQ.go ⟨_, rfl, rfl⟩ (fun w H => RX.movev (v := Value.pointer _) rfl) ?_
  refine JQ.go ⟨_, rfl, rfl⟩ (fun w H => RX.nilCheck rfl) ?_
  refine JQ.go ⟨_, rfl, rfl⟩ (fun w H => RX.fieldAddr rfl fo49_1 rfl) ?_
  refine JQ.go ⟨_, rfl, rfl⟩ (fun w H => RX.load H rfl (i := 3) (v := .int .i64 s.m) rfl rfl one3) ?_
  refine JQ.go ⟨_, rfl, rfl⟩ (fun w H => RX.eq rfl rfl) ?_
  refine JQ.go trivial (fun w H => RX.pick_t rfl rfl) ?_
  refine JQ.go trivial (fun w H => RX.movev (v := Value.bool _) rfl) ?_
  refine JQ.go ⟨_, rfl, (decide_eq_true rfl)⟩ (fun w H => RX.movev (v := Value.slice _ _ _) rfl) ?_
  refine JQ.go ⟨_, rfl, (decide_eq_true rfl)⟩ (fun w H => RX.movev (v := Value.pointer _) rfl) ?_
  refine JQ.go ⟨_, rfl, (decide_eq_true rfl)⟩ (fun w H => RX.nilCheck rfl) ?_
  refine JQ.go ⟨_, rfl, (decide_eq_true rfl)⟩ (fun w H => RX.fieldAddr rfl fo49_0 rfl) ?_
  refine JQ.go ⟨_, rfl, (decide_eq_true rfl)⟩ (fun w H => RX.load H rfl (i := 3) (v := .slice r.p r.zs.length r.c) rfl rfl one22) ?_
  refine JQ.call ⟨_, rfl, (decide_eq_true rfl)⟩ (fun w H => run_callq rfl cl34 rfl) (fun w H => (sameInts_b H (SlAt.cons (SlAt.cons (SlAt.cons (SlAt.cons (SlAt.cons hoz.slAt))))) (SlAt.cons (SlAt.cons (SlAt.cons (SlAt.cons hB.rs.own.slAt)))) hB.rs.len)) ?_
  refine JQ.go trivial (fun w H => RX.pick_t rfl (decide_eq_true rfl)) ?_
  refine JQ.go trivial (fun w H => RX.assignv (v := Value.bool _) rfl) ?_
  refine JQ.nil fun w H => ?_
  refine J.ret1 (v := Value.bool _) Tryd.func21 rfl rfl ?_
  exact ⟨_, rfl, rfl, ((H.pull 5 rfl)).drop⟩
end Go.Proofs.YtmppcnbkfjeabaaDoor
