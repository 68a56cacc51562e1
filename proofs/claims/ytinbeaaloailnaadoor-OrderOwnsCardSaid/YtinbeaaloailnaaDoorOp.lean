/- The parser of orders. -/
import Derived.Test.YtinbeaaloailnaaDoorOc
namespace Go.Proofs.YtinbeaaloailnaaDoor
open Go Go.Eng
set_option maxRecDepth 100000
set_option linter.unusedVariables false
set_option linter.unusedSimpArgs false
theorem cl47 : callable Tryd.prog 47 = true := by kernel_rfl
theorem cl55 : callable Tryd.prog 55 = true := by kernel_rfl
theorem cl56 : callable Tryd.prog 56 = true := by kernel_rfl
theorem cl57 : callable Tryd.prog 57 = true := by kernel_rfl
theorem cn77 : Tryd.prog.concrete 77 = true := by kernel_rfl
theorem fo76_0 : fieldOff Tryd.prog 76 0 = some 0 := by kernel_rfl
theorem fo76_1 : fieldOff Tryd.prog 76 1 = some 1 := by kernel_rfl
theorem ki5 : kindOf Tryd.prog 5 = some .u8 := by kernel_rfl
theorem one9 : oneOf Tryd.prog 9 = true := by kernel_rfl

def lostV (n : Nat) : Value := .iface 77 (.int .i64 (n : Nat))
def PZ (bp : Nat) (s : List UInt8) (z : Int) : Seg := [(bp, cel [.string ⟨s.toArray⟩, .int .i64 z] 76)]
def PB (bp : Nat) (s r : List UInt8) : Seg := PZ bp s (posn s r : Nat)
theorem end_of {s r : List UInt8} (h : r <:+ s) (he : posn s r = s.length) : r = [] := by
  have := h.length_le
  unfold posn at he
  exact List.eq_nil_of_length_eq_zero (by omega)
theorem not_end {s r : List UInt8} (h : r <:+ s) (he : posn s r ≠ s.length) : ∃ c r', r = c :: r' := by
  cases r with
  | nil => exact absurd (posn_nil s) he
  | cons c r' => exact ⟨c, r', rfl⟩
theorem drop_cons {t : List UInt8} {i : Nat} {c : UInt8} (h : t[i]? = some c) : t.drop i = c :: t.drop (i + 1) := by
  rw [List.drop_eq_getElem_cons (List.getElem?_eq_some_iff.1 h).1, (List.getElem?_eq_some_iff.1 h).2]
theorem u8_eq {a b : UInt8} (h : (a.toNat : Int) = (b.toNat : Int)) : a = b := UInt8.toNat_inj.1 (by omega)
theorem pow_small {k : Nat} (h : k ≤ 6) : 10 ^ k ≤ 1000000 := Nat.le_trans (Nat.pow_le_pow_right (by decide) h) (by decide)
theorem pow_step {k n d : Nat} (h : n + 1 ≤ 10 ^ k) (hd : d ≤ 9) : 10 * n + d + 1 ≤ 10 ^ (k + 1) := by
  rw [Nat.pow_succ]; omega
theorem digs_go {k n : Nat} {c : UInt8} {s : List UInt8} (h : (48 ≤ c.toNat ∧ c.toNat ≤ 57) ∧ ¬ (k = 0 ∧ c.toNat = 48)) (hk : k < 6) : digs (6 - k) n (c :: s) = digs (6 - (k + 1)) (10 * n + (c.toNat - 48)) s := by
  rw [show 6 - k = (6 - (k + 1)) + 1 by omega, digs, if_pos ⟨h.1, fun e => h.2 ⟨by omega, e.2⟩⟩]
theorem digs_stop {k n : Nat} {c : UInt8} {s : List UInt8} (h : ¬ ((48 ≤ c.toNat ∧ c.toNat ≤ 57) ∧ ¬ (k = 0 ∧ c.toNat = 48))) (hk : k < 6) : digs (6 - k) n (c :: s) = (n, c :: s) := by
  rw [show 6 - k = (6 - (k + 1)) + 1 by omega, digs, if_neg (fun e => h ⟨e.1, fun e2 => e.2 ⟨by omega, e2.2⟩⟩)]
theorem digs_out {k n : Nat} (hk : k < 6) : digs (6 - k) n [] = (n, []) := by
  rw [show 6 - k = (6 - (k + 1)) + 1 by omega, digs]
def OrdC (m : Nat) : Prop := ∀ (w0 w : World) (F : List Seg) (s r : List UInt8) (bp : Nat), r <:+ s → s.length ≤ 1099511627776 → r.length < m → Hp w0 w (PB bp s r :: F) →
  RetP Tryd.prog 47 [.pointer (some ⟨bp, 0, none⟩)] w (fun v w' => ∃ t r' vs sg, pO m r = (some t, r') ∧ v = .agg vs.toArray ∧ t.Own vs sg ∧ Hp w0 w' (sg :: PB bp s r' :: F))
    fun v w' => ∃ r', pO m r = (none, r') ∧ v = lostV (posn s r') ∧ ∃ z, Hp w0 w' (PZ bp s z :: F)

theorem next_b {w0 w : World} {F : List Seg} {s r : List UInt8} {bp : Nat} (hr : r <:+ s) (hs : s.length ≤ 1099511627776) (H : Hp w0 w (PB bp s r :: F)) : RetP Tryd.prog 55 [.pointer (some ⟨bp, 0, none⟩)] w (fun v w' => ∃ c r', r = c :: r' ∧ v = .int .u8 c.toNat ∧ Hp w0 w' (PB bp s r' :: F)) (fun v w' => r = [] ∧ v = lostV (posn s r) ∧ Hp w0 w' (PB bp s r :: F)) := by
  refine Calls.of_J (n := 35) Tryd.func55 rfl rfl rfl ?_
  refine J.seq ?_
  refine J.region ?_
  refine JL.go trivial (RX.assign) ?_
  refine JL.nil ?_
  refine J.seq ?_
  refine J.seq ?_
  refine J.quietH H hmix (by kernel_rfl) ?_
  refine JQ.go trivial (fun w H => RX.movev (v := Value.pointer _) rfl) ?_
  refine JQ.go trivial (fun w H => RX.nilCheck rfl) ?_
  refine JQ.go trivial (fun w H => RX.fieldAddr rfl fo76_1 rfl) ?_
  refine JQ.go trivial (fun w H => RX.load H rfl (i := 0) (v := .int .i64 (posn s (r) : Nat)) rfl rfl one3) ?_
  refine JQ.go trivial (fun w H => RX.movev (v := Value.pointer _) rfl) ?_
  refine JQ.go trivial (fun w H => RX.nilCheck rfl) ?_
  refine JQ.go trivial (fun w H => RX.fieldAddr rfl fo76_0 rfl) ?_
  refine JQ.go trivial (fun w H => RX.load H rfl (i := 0) (v := .string ⟨s.toArray⟩) rfl rfl one9) ?_
  refine JQ.go trivial (fun w H => RX.len_string rfl ud9 (r := (s.length : Int)) (by rw [b_size])) ?_
  refine JQ.go trivial (fun w H => RX.eq rfl rfl) ?_
  refine JQ.nil fun w H => ?_
  refine J.cond_d rfl (fun hend => ?_) (fun hend => ?_)
  · skip
    have hnil : r = [] := end_of hr (by omega)
    refine J.regionP ?_
    refine JLP.go trivial (RX.movev (v := Value.pointer _) rfl) ?_
    refine JLP.go trivial (RX.nilCheck rfl) ?_
    refine JLP.go trivial (RX.fieldAddr rfl fo76_1 rfl) ?_
    refine JLP.go trivial (RX.load H rfl (i := 0) (v := .int .i64 (posn s (r) : Nat)) rfl rfl one3) ?_
    refine JLP.go trivial (RX.makeInterface (v := Value.int _ _) rfl cn77) ?_
    refine JLP.doesP Tryd.func55 trivial (EX.panic rfl) (by rintro _ _ ⟨rfl, rfl⟩; exact .inr ⟨_, rfl, hnil, rfl, H⟩) (fun _ _ h => h.elim)
  · skip
    obtain ⟨c, r2, rfl⟩ := not_end hr (by omega)
    have hps := posn_succ hr
    refine J.skip ?_
    refine J.seq ?_
    refine J.region ?_
    refine JL.go trivial (RX.movev (v := Value.pointer _) rfl) ?_
    refine JL.go trivial (RX.nilCheck rfl) ?_
    refine JL.go trivial (RX.fieldAddr rfl fo76_1 rfl) ?_
    refine JL.go trivial (RX.load H rfl (i := 0) (v := .int .i64 (posn s (c :: r2) : Nat)) rfl rfl one3) ?_
    refine JL.go trivial (RX.add rfl rfl (w_i64 (r := ((posn s (r2) : Nat) : Int)) (by omega) (by omega) (by omega))) ?_
    refine JL.go trivial (RX.nilCheck rfl) ?_
    refine JL.go trivial (RX.fieldAddr rfl fo76_1 rfl) ?_
    refine JL.does trivial (EX.store (v := Value.int _ _) H rfl rfl (i := 0) (l' := [.string ⟨s.toArray⟩, .int .i64 (posn s (r2) : Nat)]) rfl rfl (by simp) sz3 rfl rfl) ?_
    rintro _ w H
    refine JL.nil ?_
    replace H : Hp w0 w (PB bp s r2 :: F) := H
    refine J.seq ?_
    refine J.quietH H hmix (by kernel_rfl) ?_
    refine JQ.go trivial (fun w H => RX.movev (v := Value.pointer _) rfl) ?_
    refine JQ.go trivial (fun w H => RX.nilCheck rfl) ?_
    refine JQ.go trivial (fun w H => RX.fieldAddr rfl fo76_0 rfl) ?_
    refine JQ.go trivial (fun w H => RX.load H rfl (i := 0) (v := .string ⟨s.toArray⟩) rfl rfl one9) ?_
    refine JQ.go trivial (fun w H => RX.movev (v := Value.pointer _) rfl) ?_
    refine JQ.go trivial (fun w H => RX.nilCheck rfl) ?_
    refine JQ.go trivial (fun w H => RX.fieldAddr rfl fo76_1 rfl) ?_
    refine JQ.go trivial (fun w H => RX.load H rfl (i := 0) (v := .int .i64 (posn s (r2) : Nat)) rfl rfl one3) ?_
    refine JQ.go trivial (fun w H => RX.sub rfl rfl (w_i64 (r := ((posn s (c :: r2) : Nat) : Int)) (by omega) (by omega) (by omega))) ?_
    refine JQ.go trivial (fun w H => RX.indexStr rfl rfl ud9 (b := c) (by omega) (by simpa using posn_get hr)) ?_
    refine JQ.go trivial (fun w H => RX.assignv (v := Value.int _ _) rfl) ?_
    refine JQ.nil fun w H => ?_
    refine J.ret1 (v := Value.int _ _) Tryd.func55 rfl rfl ?_
    exact .inl ⟨_, rfl, c, r2, rfl, rfl, H⟩
theorem take_b {w0 w : World} {F : List Seg} {s r : List UInt8} {bp : Nat} (hr : r <:+ s) (hs : s.length ≤ 1099511627776) (H : Hp w0 w (PB bp s r :: F)) {t : List UInt8} (ht : t.length ≤ 1000) : RetP Tryd.prog 57 [.pointer (some ⟨bp, 0, none⟩), .string ⟨t.toArray⟩] w (fun v w' => v = .tuple #[] ∧ ∃ r', takeP t r = (some (), r') ∧ Hp w0 w' (PB bp s r' :: F)) (fun v w' => ∃ r', takeP t r = (none, r') ∧ v = lostV (posn s r') ∧ ∃ z, Hp w0 w' (PZ bp s z :: F)) := by
  refine Calls.of_J (n := 23) Tryd.func57 rfl rfl rfl ?_
  refine J.seq ?_
  refine J.region ?_
  refine JL.go trivial (RX.movev (v := Value.string _) rfl) ?_
  refine JL.go trivial (RX.len_string rfl ud9 (r := (t.length : Int)) (by rw [b_size])) ?_
  refine JL.go trivial (RX.move) ?_
  refine JL.nil ?_
  refine J.block ?_
  refine J.loop (ι := Nat × List UInt8) (S := fun z => [(7, .int .i64 (z.1 : Nat))]) (Φ := fun z w => z.1 ≤ t.length ∧ z.2 <:+ s ∧ takeP t r = takeP (t.drop z.1) z.2 ∧ Hp w0 w (PB bp s z.2 :: F)) (μ := fun z => t.length - z.1) (C := [(0, _), (1, _), (6, _)]) (0, r) ⟨rfl, rfl, rfl, trivial⟩ ⟨rfl, trivial⟩ ?_ ?_
  · exact ⟨by simp, hr, rfl, H⟩
  clear H
  rintro ⟨i, r1⟩ ρ w ⟨hi, hr1, htk, H⟩ IH
  simp only at hi hr1 htk H
  dsimp only
  refine J.seq ?_
  refine J.region ?_
  refine JL.go trivial (RX.lt rfl rfl) ?_
  refine JL.nil ?_
  refine J.seq ?_
  refine J.cond_d rfl (fun hlt => ?_) (fun hlt => ?_)
  · skip
    obtain ⟨ct, hct⟩ : ∃ ct, t[i]? = some ct := ⟨_, List.getElem?_eq_getElem (by omega)⟩
    rw [drop_cons hct] at htk
    refine J.skip ?_
    refine J.seq ?_
    refine J.block ?_
    refine J.seq ?_
    refine J.region ?_
    refine JL.go trivial (RX.movev (v := Value.int _ _) rfl) ?_
    refine JL.go trivial (RX.assignv (v := Value.int _ _) rfl) ?_
    refine JL.nil ?_
    refine J.seq ?_
    refine J.join (ι := Bool × UInt8 × List UInt8) (fun z => [(15, .bool z.1)]) (fun z w => r1 = z.2.1 :: z.2.2 ∧ z.1 = decide (¬ ((z.2.1.toNat : Int) = (ct.toNat : Int))) ∧ Hp w0 w (PB bp s z.2.2 :: F)) [(0, _), (1, _), (6, _), (7, _)] ⟨rfl, rfl, rfl, rfl, trivial⟩ ?_ ?_
    rotate_left
    · skip
      intro k2 hk2
      refine J.anyP hmix fun w hs => ?_
      replace H := H.same hs; clear hs
      refine JAP.all [0, 2, 3] (by kernel_rfl) (by decide) ?_
      refine ⟨?_, ?_, ?_⟩
      · skip
        refine JOP.go (listed' := [true, false, false, false, false, false]) rfl rfl trivial (RX.movev (v := Value.pointer _) rfl) ?_
        refine JAP.all [1, 2, 3] (by kernel_rfl) (by decide) ?_
        refine ⟨?_, ?_, ?_⟩
        · skip
          refine JOP.doesP (listed' := [true, true, false, false, false, false]) rfl rfl Tryd.func57 trivial (EX.callP rfl cl55 rfl ((next_b hr1 hs H))) (by rintro _ _ ⟨hnil, rfl, H⟩; exact .inr ⟨_, rfl, r1, by rw [htk, hnil]; rfl, rfl, _, H⟩) ?_
          rintro _ w ⟨c, r2, rfl, rfl, H⟩
          refine JAP.all [2, 3] (by kernel_rfl) (by decide) ?_
          refine ⟨?_, ?_⟩
          · skip
            refine JOP.go (listed' := [true, true, true, false, false, false]) rfl rfl trivial (RX.movev (v := Value.string _) rfl) ?_
            refine JAP.all [3] (by kernel_rfl) (by decide) ?_
            refine JOP.go (listed' := [true, true, true, true, false, false]) rfl rfl trivial (RX.movev (v := Value.int _ _) rfl) ?_
            refine JAP.all [4] (by kernel_rfl) (by decide) ?_
            refine JOP.go (listed' := [true, true, true, true, true, false]) rfl rfl trivial (RX.indexStr rfl rfl ud9 (b := ct) (by omega) (by simpa using hct)) ?_
            refine JAP.all [5] (by kernel_rfl) (by decide) ?_
            refine JOP.go (listed' := [true, true, true, true, true, true]) rfl rfl trivial (RX.ne rfl rfl) ?_
            refine JAP.done (by kernel_rfl) ?_
            exact hk2 (_, c, r2) _ _ ⟨rfl, rfl, rfl, rfl, trivial⟩ ⟨rfl, trivial⟩ ⟨rfl, rfl, H⟩
          · skip
            refine JOP.go (listed' := [true, true, false, true, false, false]) rfl rfl trivial (RX.movev (v := Value.int _ _) rfl) ?_
            refine JAP.all [2] (by kernel_rfl) (by decide) ?_
            refine JOP.go (listed' := [true, true, true, true, false, false]) rfl rfl trivial (RX.movev (v := Value.string _) rfl) ?_
            refine JAP.all [4] (by kernel_rfl) (by decide) ?_
            refine JOP.go (listed' := [true, true, true, true, true, false]) rfl rfl trivial (RX.indexStr rfl rfl ud9 (b := ct) (by omega) (by simpa using hct)) ?_
            refine JAP.all [5] (by kernel_rfl) (by decide) ?_
            refine JOP.go (listed' := [true, true, true, true, true, true]) rfl rfl trivial (RX.ne rfl rfl) ?_
            refine JAP.done (by kernel_rfl) ?_
            exact hk2 (_, c, r2) _ _ ⟨rfl, rfl, rfl, rfl, trivial⟩ ⟨rfl, trivial⟩ ⟨rfl, rfl, H⟩
        · skip
          refine JOP.go (listed' := [true, false, true, false, false, false]) rfl rfl trivial (RX.movev (v := Value.string _) rfl) ?_
          refine JAP.all [1, 3] (by kernel_rfl) (by decide) ?_
          refine ⟨?_, ?_⟩
          · skip
            refine JOP.doesP (listed' := [true, true, true, false, false, false]) rfl rfl Tryd.func57 trivial (EX.callP rfl cl55 rfl ((next_b hr1 hs H))) (by rintro _ _ ⟨hnil, rfl, H⟩; exact .inr ⟨_, rfl, r1, by rw [htk, hnil]; rfl, rfl, _, H⟩) ?_
            rintro _ w ⟨c, r2, rfl, rfl, H⟩
            refine JAP.all [3] (by kernel_rfl) (by decide) ?_
            refine JOP.go (listed' := [true, true, true, true, false, false]) rfl rfl trivial (RX.movev (v := Value.int _ _) rfl) ?_
            refine JAP.all [4] (by kernel_rfl) (by decide) ?_
            refine JOP.go (listed' := [true, true, true, true, true, false]) rfl rfl trivial (RX.indexStr rfl rfl ud9 (b := ct) (by omega) (by simpa using hct)) ?_
            refine JAP.all [5] (by kernel_rfl) (by decide) ?_
            refine JOP.go (listed' := [true, true, true, true, true, true]) rfl rfl trivial (RX.ne rfl rfl) ?_
            refine JAP.done (by kernel_rfl) ?_
            exact hk2 (_, c, r2) _ _ ⟨rfl, rfl, rfl, rfl, trivial⟩ ⟨rfl, trivial⟩ ⟨rfl, rfl, H⟩
          · skip
            refine JOP.go (listed' := [true, false, true, true, false, false]) rfl rfl trivial (RX.movev (v := Value.int _ _) rfl) ?_
            refine JAP.all [1, 4] (by kernel_rfl) (by decide) ?_
            refine ⟨?_, ?_⟩
            · skip
              refine JOP.doesP (listed' := [true, true, true, true, false, false]) rfl rfl Tryd.func57 trivial (EX.callP rfl cl55 rfl ((next_b hr1 hs H))) (by rintro _ _ ⟨hnil, rfl, H⟩; exact .inr ⟨_, rfl, r1, by rw [htk, hnil]; rfl, rfl, _, H⟩) ?_
              rintro _ w ⟨c, r2, rfl, rfl, H⟩
              refine JAP.all [4] (by kernel_rfl) (by decide) ?_
              refine JOP.go (listed' := [true, true, true, true, true, false]) rfl rfl trivial (RX.indexStr rfl rfl ud9 (b := ct) (by omega) (by simpa using hct)) ?_
              refine JAP.all [5] (by kernel_rfl) (by decide) ?_
              refine JOP.go (listed' := [true, true, true, true, true, true]) rfl rfl trivial (RX.ne rfl rfl) ?_
              refine JAP.done (by kernel_rfl) ?_
              exact hk2 (_, c, r2) _ _ ⟨rfl, rfl, rfl, rfl, trivial⟩ ⟨rfl, trivial⟩ ⟨rfl, rfl, H⟩
            · skip
              refine JOP.go (listed' := [true, false, true, true, true, false]) rfl rfl trivial (RX.indexStr rfl rfl ud9 (b := ct) (by omega) (by simpa using hct)) ?_
              refine JAP.all [1] (by kernel_rfl) (by decide) ?_
              refine JOP.doesP (listed' := [true, true, true, true, true, false]) rfl rfl Tryd.func57 trivial (EX.callP rfl cl55 rfl ((next_b hr1 hs H))) (by rintro _ _ ⟨hnil, rfl, H⟩; exact .inr ⟨_, rfl, r1, by rw [htk, hnil]; rfl, rfl, _, H⟩) ?_
              rintro _ w ⟨c, r2, rfl, rfl, H⟩
              refine JAP.all [5] (by kernel_rfl) (by decide) ?_
              refine JOP.go (listed' := [true, true, true, true, true, true]) rfl rfl trivial (RX.ne rfl rfl) ?_
              refine JAP.done (by kernel_rfl) ?_
              exact hk2 (_, c, r2) _ _ ⟨rfl, rfl, rfl, rfl, trivial⟩ ⟨rfl, trivial⟩ ⟨rfl, rfl, H⟩
        · skip
          refine JOP.go (listed' := [true, false, false, true, false, false]) rfl rfl trivial (RX.movev (v := Value.int _ _) rfl) ?_
          refine JAP.all [1, 2] (by kernel_rfl) (by decide) ?_
          refine ⟨?_, ?_⟩
          · skip
            refine JOP.doesP (listed' := [true, true, false, true, false, false]) rfl rfl Tryd.func57 trivial (EX.callP rfl cl55 rfl ((next_b hr1 hs H))) (by rintro _ _ ⟨hnil, rfl, H⟩; exact .inr ⟨_, rfl, r1, by rw [htk, hnil]; rfl, rfl, _, H⟩) ?_
            rintro _ w ⟨c, r2, rfl, rfl, H⟩
            refine JAP.all [2] (by kernel_rfl) (by decide) ?_
            refine JOP.go (listed' := [true, true, true, true, false, false]) rfl rfl trivial (RX.movev (v := Value.string _) rfl) ?_
            refine JAP.all [4] (by kernel_rfl) (by decide) ?_
            refine JOP.go (listed' := [true, true, true, true, true, false]) rfl rfl trivial (RX.indexStr rfl rfl ud9 (b := ct) (by omega) (by simpa using hct)) ?_
            refine JAP.all [5] (by kernel_rfl) (by decide) ?_
            refine JOP.go (listed' := [true, true, true, true, true, true]) rfl rfl trivial (RX.ne rfl rfl) ?_
            refine JAP.done (by kernel_rfl) ?_
            exact hk2 (_, c, r2) _ _ ⟨rfl, rfl, rfl, rfl, trivial⟩ ⟨rfl, trivial⟩ ⟨rfl, rfl, H⟩
          · skip
            refine JOP.go (listed' := [true, false, true, true, false, false]) rfl rfl trivial (RX.movev (v := Value.string _) rfl) ?_
            refine JAP.all [1, 4] (by kernel_rfl) (by decide) ?_
            refine ⟨?_, ?_⟩
            · skip
              refine JOP.doesP (listed' := [true, true, true, true, false, false]) rfl rfl Tryd.func57 trivial (EX.callP rfl cl55 rfl ((next_b hr1 hs H))) (by rintro _ _ ⟨hnil, rfl, H⟩; exact .inr ⟨_, rfl, r1, by rw [htk, hnil]; rfl, rfl, _, H⟩) ?_
              rintro _ w ⟨c, r2, rfl, rfl, H⟩
              refine JAP.all [4] (by kernel_rfl) (by decide) ?_
              refine JOP.go (listed' := [true, true, true, true, true, false]) rfl rfl trivial (RX.indexStr rfl rfl ud9 (b := ct) (by omega) (by simpa using hct)) ?_
              refine JAP.all [5] (by kernel_rfl) (by decide) ?_
              refine JOP.go (listed' := [true, true, true, true, true, true]) rfl rfl trivial (RX.ne rfl rfl) ?_
              refine JAP.done (by kernel_rfl) ?_
              exact hk2 (_, c, r2) _ _ ⟨rfl, rfl, rfl, rfl, trivial⟩ ⟨rfl, trivial⟩ ⟨rfl, rfl, H⟩
            · skip
              refine JOP.go (listed' := [true, false, true, true, true, false]) rfl rfl trivial (RX.indexStr rfl rfl ud9 (b := ct) (by omega) (by simpa using hct)) ?_
              refine JAP.all [1] (by kernel_rfl) (by decide) ?_
              refine JOP.doesP (listed' := [true, true, true, true, true, false]) rfl rfl Tryd.func57 trivial (EX.callP rfl cl55 rfl ((next_b hr1 hs H))) (by rintro _ _ ⟨hnil, rfl, H⟩; exact .inr ⟨_, rfl, r1, by rw [htk, hnil]; rfl, rfl, _, H⟩) ?_
              rintro _ w ⟨c, r2, rfl, rfl, H⟩
              refine JAP.all [5] (by kernel_rfl) (by decide) ?_
              refine JOP.go (listed' := [true, true, true, true, true, true]) rfl rfl trivial (RX.ne rfl rfl) ?_
              refine JAP.done (by kernel_rfl) ?_
              exact hk2 (_, c, r2) _ _ ⟨rfl, rfl, rfl, rfl, trivial⟩ ⟨rfl, trivial⟩ ⟨rfl, rfl, H⟩
      · skip
        refine JOP.go (listed' := [false, false, true, false, false, false]) rfl rfl trivial (RX.movev (v := Value.string _) rfl) ?_
        refine JAP.all [0, 3] (by kernel_rfl) (by decide) ?_
        refine ⟨?_, ?_⟩
        · skip
          refine JOP.go (listed' := [true, false, true, false, false, false]) rfl rfl trivial (RX.movev (v := Value.pointer _) rfl) ?_
          refine JAP.all [1, 3] (by kernel_rfl) (by decide) ?_
          refine ⟨?_, ?_⟩
          · skip
            refine JOP.doesP (listed' := [true, true, true, false, false, false]) rfl rfl Tryd.func57 trivial (EX.callP rfl cl55 rfl ((next_b hr1 hs H))) (by rintro _ _ ⟨hnil, rfl, H⟩; exact .inr ⟨_, rfl, r1, by rw [htk, hnil]; rfl, rfl, _, H⟩) ?_
            rintro _ w ⟨c, r2, rfl, rfl, H⟩
            refine JAP.all [3] (by kernel_rfl) (by decide) ?_
            refine JOP.go (listed' := [true, true, true, true, false, false]) rfl rfl trivial (RX.movev (v := Value.int _ _) rfl) ?_
            refine JAP.all [4] (by kernel_rfl) (by decide) ?_
            refine JOP.go (listed' := [true, true, true, true, true, false]) rfl rfl trivial (RX.indexStr rfl rfl ud9 (b := ct) (by omega) (by simpa using hct)) ?_
            refine JAP.all [5] (by kernel_rfl) (by decide) ?_
            refine JOP.go (listed' := [true, true, true, true, true, true]) rfl rfl trivial (RX.ne rfl rfl) ?_
            refine JAP.done (by kernel_rfl) ?_
            exact hk2 (_, c, r2) _ _ ⟨rfl, rfl, rfl, rfl, trivial⟩ ⟨rfl, trivial⟩ ⟨rfl, rfl, H⟩
          · skip
            refine JOP.go (listed' := [true, false, true, true, false, false]) rfl rfl trivial (RX.movev (v := Value.int _ _) rfl) ?_
            refine JAP.all [1, 4] (by kernel_rfl) (by decide) ?_
            refine ⟨?_, ?_⟩
            · skip
              refine JOP.doesP (listed' := [true, true, true, true, false, false]) rfl rfl Tryd.func57 trivial (EX.callP rfl cl55 rfl ((next_b hr1 hs H))) (by rintro _ _ ⟨hnil, rfl, H⟩; exact .inr ⟨_, rfl, r1, by rw [htk, hnil]; rfl, rfl, _, H⟩) ?_
              rintro _ w ⟨c, r2, rfl, rfl, H⟩
              refine JAP.all [4] (by kernel_rfl) (by decide) ?_
              refine JOP.go (listed' := [true, true, true, true, true, false]) rfl rfl trivial (RX.indexStr rfl rfl ud9 (b := ct) (by omega) (by simpa using hct)) ?_
              refine JAP.all [5] (by kernel_rfl) (by decide) ?_
              refine JOP.go (listed' := [true, true, true, true, true, true]) rfl rfl trivial (RX.ne rfl rfl) ?_
              refine JAP.done (by kernel_rfl) ?_
              exact hk2 (_, c, r2) _ _ ⟨rfl, rfl, rfl, rfl, trivial⟩ ⟨rfl, trivial⟩ ⟨rfl, rfl, H⟩
            · skip
              refine JOP.go (listed' := [true, false, true, true, true, false]) rfl rfl trivial (RX.indexStr rfl rfl ud9 (b := ct) (by omega) (by simpa using hct)) ?_
              refine JAP.all [1] (by kernel_rfl) (by decide) ?_
              refine JOP.doesP (listed' := [true, true, true, true, true, false]) rfl rfl Tryd.func57 trivial (EX.callP rfl cl55 rfl ((next_b hr1 hs H))) (by rintro _ _ ⟨hnil, rfl, H⟩; exact .inr ⟨_, rfl, r1, by rw [htk, hnil]; rfl, rfl, _, H⟩) ?_
              rintro _ w ⟨c, r2, rfl, rfl, H⟩
              refine JAP.all [5] (by kernel_rfl) (by decide) ?_
              refine JOP.go (listed' := [true, true, true, true, true, true]) rfl rfl trivial (RX.ne rfl rfl) ?_
              refine JAP.done (by kernel_rfl) ?_
              exact hk2 (_, c, r2) _ _ ⟨rfl, rfl, rfl, rfl, trivial⟩ ⟨rfl, trivial⟩ ⟨rfl, rfl, H⟩
        · skip
          refine JOP.go (listed' := [false, false, true, true, false, false]) rfl rfl trivial (RX.movev (v := Value.int _ _) rfl) ?_
          refine JAP.all [0, 4] (by kernel_rfl) (by decide) ?_
          refine ⟨?_, ?_⟩
          · skip
            refine JOP.go (listed' := [true, false, true, true, false, false]) rfl rfl trivial (RX.movev (v := Value.pointer _) rfl) ?_
            refine JAP.all [1, 4] (by kernel_rfl) (by decide) ?_
            refine ⟨?_, ?_⟩
            · skip
              refine JOP.doesP (listed' := [true, true, true, true, false, false]) rfl rfl Tryd.func57 trivial (EX.callP rfl cl55 rfl ((next_b hr1 hs H))) (by rintro _ _ ⟨hnil, rfl, H⟩; exact .inr ⟨_, rfl, r1, by rw [htk, hnil]; rfl, rfl, _, H⟩) ?_
              rintro _ w ⟨c, r2, rfl, rfl, H⟩
              refine JAP.all [4] (by kernel_rfl) (by decide) ?_
              refine JOP.go (listed' := [true, true, true, true, true, false]) rfl rfl trivial (RX.indexStr rfl rfl ud9 (b := ct) (by omega) (by simpa using hct)) ?_
              refine JAP.all [5] (by kernel_rfl) (by decide) ?_
              refine JOP.go (listed' := [true, true, true, true, true, true]) rfl rfl trivial (RX.ne rfl rfl) ?_
              refine JAP.done (by kernel_rfl) ?_
              exact hk2 (_, c, r2) _ _ ⟨rfl, rfl, rfl, rfl, trivial⟩ ⟨rfl, trivial⟩ ⟨rfl, rfl, H⟩
            · skip
              refine JOP.go (listed' := [true, false, true, true, true, false]) rfl rfl trivial (RX.indexStr rfl rfl ud9 (b := ct) (by omega) (by simpa using hct)) ?_
              refine JAP.all [1] (by kernel_rfl) (by decide) ?_
              refine JOP.doesP (listed' := [true, true, true, true, true, false]) rfl rfl Tryd.func57 trivial (EX.callP rfl cl55 rfl ((next_b hr1 hs H))) (by rintro _ _ ⟨hnil, rfl, H⟩; exact .inr ⟨_, rfl, r1, by rw [htk, hnil]; rfl, rfl, _, H⟩) ?_
              rintro _ w ⟨c, r2, rfl, rfl, H⟩
              refine JAP.all [5] (by kernel_rfl) (by decide) ?_
              refine JOP.go (listed' := [true, true, true, true, true, true]) rfl rfl trivial (RX.ne rfl rfl) ?_
              refine JAP.done (by kernel_rfl) ?_
              exact hk2 (_, c, r2) _ _ ⟨rfl, rfl, rfl, rfl, trivial⟩ ⟨rfl, trivial⟩ ⟨rfl, rfl, H⟩
          · skip
            refine JOP.go (listed' := [false, false, true, true, true, false]) rfl rfl trivial (RX.indexStr rfl rfl ud9 (b := ct) (by omega) (by simpa using hct)) ?_
            refine JAP.all [0] (by kernel_rfl) (by decide) ?_
            refine JOP.go (listed' := [true, false, true, true, true, false]) rfl rfl trivial (RX.movev (v := Value.pointer _) rfl) ?_
            refine JAP.all [1] (by kernel_rfl) (by decide) ?_
            refine JOP.doesP (listed' := [true, true, true, true, true, false]) rfl rfl Tryd.func57 trivial (EX.callP rfl cl55 rfl ((next_b hr1 hs H))) (by rintro _ _ ⟨hnil, rfl, H⟩; exact .inr ⟨_, rfl, r1, by rw [htk, hnil]; rfl, rfl, _, H⟩) ?_
            rintro _ w ⟨c, r2, rfl, rfl, H⟩
            refine JAP.all [5] (by kernel_rfl) (by decide) ?_
            refine JOP.go (listed' := [true, true, true, true, true, true]) rfl rfl trivial (RX.ne rfl rfl) ?_
            refine JAP.done (by kernel_rfl) ?_
            exact hk2 (_, c, r2) _ _ ⟨rfl, rfl, rfl, rfl, trivial⟩ ⟨rfl, trivial⟩ ⟨rfl, rfl, H⟩
      · skip
        refine JOP.go (listed' := [false, false, false, true, false, false]) rfl rfl trivial (RX.movev (v := Value.int _ _) rfl) ?_
        refine JAP.all [0, 2] (by kernel_rfl) (by decide) ?_
        refine ⟨?_, ?_⟩
        · skip
          refine JOP.go (listed' := [true, false, false, true, false, false]) rfl rfl trivial (RX.movev (v := Value.pointer _) rfl) ?_
          refine JAP.all [1, 2] (by kernel_rfl) (by decide) ?_
          refine ⟨?_, ?_⟩
          · skip
            refine JOP.doesP (listed' := [true, true, false, true, false, false]) rfl rfl Tryd.func57 trivial (EX.callP rfl cl55 rfl ((next_b hr1 hs H))) (by rintro _ _ ⟨hnil, rfl, H⟩; exact .inr ⟨_, rfl, r1, by rw [htk, hnil]; rfl, rfl, _, H⟩) ?_
            rintro _ w ⟨c, r2, rfl, rfl, H⟩
            refine JAP.all [2] (by kernel_rfl) (by decide) ?_
            refine JOP.go (listed' := [true, true, true, true, false, false]) rfl rfl trivial (RX.movev (v := Value.string _) rfl) ?_
            refine JAP.all [4] (by kernel_rfl) (by decide) ?_
            refine JOP.go (listed' := [true, true, true, true, true, false]) rfl rfl trivial (RX.indexStr rfl rfl ud9 (b := ct) (by omega) (by simpa using hct)) ?_
            refine JAP.all [5] (by kernel_rfl) (by decide) ?_
            refine JOP.go (listed' := [true, true, true, true, true, true]) rfl rfl trivial (RX.ne rfl rfl) ?_
            refine JAP.done (by kernel_rfl) ?_
            exact hk2 (_, c, r2) _ _ ⟨rfl, rfl, rfl, rfl, trivial⟩ ⟨rfl, trivial⟩ ⟨rfl, rfl, H⟩
          · skip
            refine JOP.go (listed' := [true, false, true, true, false, false]) rfl rfl trivial (RX.movev (v := Value.string _) rfl) ?_
            refine JAP.all [1, 4] (by kernel_rfl) (by decide) ?_
            refine ⟨?_, ?_⟩
            · skip
              refine JOP.doesP (listed' := [true, true, true, true, false, false]) rfl rfl Tryd.func57 trivial (EX.callP rfl cl55 rfl ((next_b hr1 hs H))) (by rintro _ _ ⟨hnil, rfl, H⟩; exact .inr ⟨_, rfl, r1, by rw [htk, hnil]; rfl, rfl, _, H⟩) ?_
              rintro _ w ⟨c, r2, rfl, rfl, H⟩
              refine JAP.all [4] (by kernel_rfl) (by decide) ?_
              refine JOP.go (listed' := [true, true, true, true, true, false]) rfl rfl trivial (RX.indexStr rfl rfl ud9 (b := ct) (by omega) (by simpa using hct)) ?_
              refine JAP.all [5] (by kernel_rfl) (by decide) ?_
              refine JOP.go (listed' := [true, true, true, true, true, true]) rfl rfl trivial (RX.ne rfl rfl) ?_
              refine JAP.done (by kernel_rfl) ?_
              exact hk2 (_, c, r2) _ _ ⟨rfl, rfl, rfl, rfl, trivial⟩ ⟨rfl, trivial⟩ ⟨rfl, rfl, H⟩
            · skip
              refine JOP.go (listed' := [true, false, true, true, true, false]) rfl rfl trivial (RX.indexStr rfl rfl ud9 (b := ct) (by omega) (by simpa using hct)) ?_
              refine JAP.all [1] (by kernel_rfl) (by decide) ?_
              refine JOP.doesP (listed' := [true, true, true, true, true, false]) rfl rfl Tryd.func57 trivial (EX.callP rfl cl55 rfl ((next_b hr1 hs H))) (by rintro _ _ ⟨hnil, rfl, H⟩; exact .inr ⟨_, rfl, r1, by rw [htk, hnil]; rfl, rfl, _, H⟩) ?_
              rintro _ w ⟨c, r2, rfl, rfl, H⟩
              refine JAP.all [5] (by kernel_rfl) (by decide) ?_
              refine JOP.go (listed' := [true, true, true, true, true, true]) rfl rfl trivial (RX.ne rfl rfl) ?_
              refine JAP.done (by kernel_rfl) ?_
              exact hk2 (_, c, r2) _ _ ⟨rfl, rfl, rfl, rfl, trivial⟩ ⟨rfl, trivial⟩ ⟨rfl, rfl, H⟩
        · skip
          refine JOP.go (listed' := [false, false, true, true, false, false]) rfl rfl trivial (RX.movev (v := Value.string _) rfl) ?_
          refine JAP.all [0, 4] (by kernel_rfl) (by decide) ?_
          refine ⟨?_, ?_⟩
          · skip
            refine JOP.go (listed' := [true, false, true, true, false, false]) rfl rfl trivial (RX.movev (v := Value.pointer _) rfl) ?_
            refine JAP.all [1, 4] (by kernel_rfl) (by decide) ?_
            refine ⟨?_, ?_⟩
            · skip
              refine JOP.doesP (listed' := [true, true, true, true, false, false]) rfl rfl Tryd.func57 trivial (EX.callP rfl cl55 rfl ((next_b hr1 hs H))) (by rintro _ _ ⟨hnil, rfl, H⟩; exact .inr ⟨_, rfl, r1, by rw [htk, hnil]; rfl, rfl, _, H⟩) ?_
              rintro _ w ⟨c, r2, rfl, rfl, H⟩
              refine JAP.all [4] (by kernel_rfl) (by decide) ?_
              refine JOP.go (listed' := [true, true, true, true, true, false]) rfl rfl trivial (RX.indexStr rfl rfl ud9 (b := ct) (by omega) (by simpa using hct)) ?_
              refine JAP.all [5] (by kernel_rfl) (by decide) ?_
              refine JOP.go (listed' := [true, true, true, true, true, true]) rfl rfl trivial (RX.ne rfl rfl) ?_
              refine JAP.done (by kernel_rfl) ?_
              exact hk2 (_, c, r2) _ _ ⟨rfl, rfl, rfl, rfl, trivial⟩ ⟨rfl, trivial⟩ ⟨rfl, rfl, H⟩
            · skip
              refine JOP.go (listed' := [true, false, true, true, true, false]) rfl rfl trivial (RX.indexStr rfl rfl ud9 (b := ct) (by omega) (by simpa using hct)) ?_
              refine JAP.all [1] (by kernel_rfl) (by decide) ?_
              refine JOP.doesP (listed' := [true, true, true, true, true, false]) rfl rfl Tryd.func57 trivial (EX.callP rfl cl55 rfl ((next_b hr1 hs H))) (by rintro _ _ ⟨hnil, rfl, H⟩; exact .inr ⟨_, rfl, r1, by rw [htk, hnil]; rfl, rfl, _, H⟩) ?_
              rintro _ w ⟨c, r2, rfl, rfl, H⟩
              refine JAP.all [5] (by kernel_rfl) (by decide) ?_
              refine JOP.go (listed' := [true, true, true, true, true, true]) rfl rfl trivial (RX.ne rfl rfl) ?_
              refine JAP.done (by kernel_rfl) ?_
              exact hk2 (_, c, r2) _ _ ⟨rfl, rfl, rfl, rfl, trivial⟩ ⟨rfl, trivial⟩ ⟨rfl, rfl, H⟩
          · skip
            refine JOP.go (listed' := [false, false, true, true, true, false]) rfl rfl trivial (RX.indexStr rfl rfl ud9 (b := ct) (by omega) (by simpa using hct)) ?_
            refine JAP.all [0] (by kernel_rfl) (by decide) ?_
            refine JOP.go (listed' := [true, false, true, true, true, false]) rfl rfl trivial (RX.movev (v := Value.pointer _) rfl) ?_
            refine JAP.all [1] (by kernel_rfl) (by decide) ?_
            refine JOP.doesP (listed' := [true, true, true, true, true, false]) rfl rfl Tryd.func57 trivial (EX.callP rfl cl55 rfl ((next_b hr1 hs H))) (by rintro _ _ ⟨hnil, rfl, H⟩; exact .inr ⟨_, rfl, r1, by rw [htk, hnil]; rfl, rfl, _, H⟩) ?_
            rintro _ w ⟨c, r2, rfl, rfl, H⟩
            refine JAP.all [5] (by kernel_rfl) (by decide) ?_
            refine JOP.go (listed' := [true, true, true, true, true, true]) rfl rfl trivial (RX.ne rfl rfl) ?_
            refine JAP.done (by kernel_rfl) ?_
            exact hk2 (_, c, r2) _ _ ⟨rfl, rfl, rfl, rfl, trivial⟩ ⟨rfl, trivial⟩ ⟨rfl, rfl, H⟩
    · skip
      clear H
      rintro ⟨q, c, r2⟩ ρ w ⟨hrc, hq, H⟩
      simp only at hrc hq H
      subst hrc
      have hps := posn_succ hr1
      try dsimp only
      refine J.cond rfl (fun hne => ?_) (fun hne => ?_)
      · skip
        have hcc : c ≠ ct := fun h => of_decide_eq_true (hq.symm.trans hne) (by rw [h])
        refine J.regionP ?_
        refine JLP.go trivial (RX.movev (v := Value.pointer _) rfl) ?_
        refine JLP.go trivial (RX.nilCheck rfl) ?_
        refine JLP.go trivial (RX.fieldAddr rfl fo76_1 rfl) ?_
        refine JLP.go trivial (RX.load H rfl (i := 0) (v := .int .i64 (posn s (r2) : Nat)) rfl rfl one3) ?_
        refine JLP.go trivial (RX.sub rfl rfl (w_i64 (r := ((posn s (c :: r2) : Nat) : Int)) (by omega) (by omega) (by omega))) ?_
        refine JLP.go trivial (RX.makeInterface (v := Value.int _ _) rfl cn77) ?_
        refine JLP.doesP Tryd.func57 trivial (EX.panic rfl) (by rintro _ _ ⟨rfl, rfl⟩; exact .inr ⟨_, rfl, c :: r2, by rw [htk, takeP, if_neg hcc], rfl, _, H⟩) (fun _ _ h => h.elim)
      · skip
        have hcc : c = ct := u8_eq (Decidable.not_not.1 (of_decide_eq_false (hq.symm.trans hne)))
        rw [takeP, if_pos hcc] at htk
        refine J.skip ?_
        refine J.inBlock ?_
        refine J.region ?_
        refine JL.go trivial (RX.add rfl rfl (w_i64 (r := ((i + 1 : Nat) : Int)) (by omega) (by omega) (by omega))) ?_
        refine JL.go trivial (RX.movev (v := Value.int _ _) rfl) ?_
        refine JL.nil ?_
        exact IH (i + 1, r2) _ _ (by simp only; omega) ⟨rfl, rfl, rfl, trivial⟩ ⟨rfl, trivial⟩ ⟨by simp only; omega, suf_tail hr1, htk, H⟩
  · skip
    have hit : i = t.length := by omega
    subst hit
    rw [List.drop_length, takeP] at htk
    refine J.exit rfl ?_
    refine J.end0 Tryd.func57 rfl ?_
    exact .inl ⟨_, rfl, rfl, r1, htk, H⟩
theorem number_b {w0 w : World} {F : List Seg} {s r : List UInt8} {bp : Nat} (hr : r <:+ s) (hs : s.length ≤ 1099511627776) (H : Hp w0 w (PB bp s r :: F)) : RetP Tryd.prog 56 [.pointer (some ⟨bp, 0, none⟩)] w (fun v w' => ∃ n r', numP r = (some n, r') ∧ v = .int .i64 (n : Nat) ∧ n ≤ 999999 ∧ Hp w0 w' (PB bp s r' :: F)) (fun v w' => ∃ r', numP r = (none, r') ∧ v = lostV (posn s r') ∧ ∃ z, Hp w0 w' (PZ bp s z :: F)) := by
  refine Calls.of_J (n := 66) Tryd.func56 rfl rfl rfl ?_
  refine J.seq ?_
  refine J.region ?_
  refine JL.go trivial (RX.assign) ?_
  refine JL.nil ?_
  refine J.seq ?_
  refine J.region ?_
  refine JL.go trivial (RX.assign) ?_
  refine JL.nil ?_
  refine J.seq ?_
  refine J.seq ?_
  refine J.region ?_
  refine JL.go trivial (RX.assign) ?_
  refine JL.nil ?_
  refine J.block ?_
  refine J.loop (ι := Nat × Nat × List UInt8) (S := fun z => [(3, .int .i64 (z.2.1 : Nat)), (4, .int .i64 (z.1 : Nat))]) (Φ := fun z w => z.1 ≤ 6 ∧ z.2.1 + 1 ≤ 10 ^ z.1 ∧ z.2.2 <:+ s ∧ digs 6 0 r = digs (6 - z.1) z.2.1 z.2.2 ∧ Hp w0 w (PB bp s z.2.2 :: F)) (μ := fun z => 6 - z.1) (C := [(0, _)]) (0, 0, r) ⟨rfl, trivial⟩ ⟨rfl, rfl, trivial⟩ ?_ ?_
  · exact ⟨by simp, by simp, hr, rfl, H⟩
  clear H
  rintro ⟨k, n, r1⟩ ρ w ⟨hk, hn, hr1, hdg, H⟩ IH
  simp only at hk hn hr1 hdg H
  have hpw := pow_small hk
  dsimp only
  refine J.seq ?_
  refine J.seq ?_
  refine J.quietH H hmix (by kernel_rfl) ?_
  refine JQ.go trivial (fun w H => RX.movev (v := Value.int _ _) rfl) ?_
  refine JQ.go trivial (fun w H => RX.lt rfl rfl) ?_
  refine JQ.go trivial (fun w H => RX.movev (v := Value.bool _) rfl) ?_
  refine JQ.splitS 8 rfl (fun hk6 => ?_) (fun hk6 => ?_)
  · skip
    first | have hk6p := of_decide_eq_true hk6 | skip
    refine JQ.go ⟨_, rfl, hk6⟩ (fun w H => RX.movev (v := Value.pointer _) rfl) ?_
    refine JQ.go ⟨_, rfl, hk6⟩ (fun w H => RX.nilCheck rfl) ?_
    refine JQ.go ⟨_, rfl, hk6⟩ (fun w H => RX.fieldAddr rfl fo76_1 rfl) ?_
    refine JQ.go ⟨_, rfl, hk6⟩ (fun w H => RX.load H rfl (i := 0) (v := .int .i64 (posn s (r1) : Nat)) rfl rfl one3) ?_
    refine JQ.go ⟨_, rfl, hk6⟩ (fun w H => RX.movev (v := Value.pointer _) rfl) ?_
    refine JQ.go ⟨_, rfl, hk6⟩ (fun w H => RX.nilCheck rfl) ?_
    refine JQ.go ⟨_, rfl, hk6⟩ (fun w H => RX.fieldAddr rfl fo76_0 rfl) ?_
    refine JQ.go ⟨_, rfl, hk6⟩ (fun w H => RX.load H rfl (i := 0) (v := .string ⟨s.toArray⟩) rfl rfl one9) ?_
    refine JQ.go ⟨_, rfl, hk6⟩ (fun w H => RX.len_string rfl ud9 (r := (s.length : Int)) (by rw [b_size])) ?_
    refine JQ.go ⟨_, rfl, hk6⟩ (fun w H => RX.lt rfl rfl) ?_
    refine JQ.go trivial (fun w H => RX.pick_t rfl hk6) ?_
    refine JQ.nil fun w H => ?_
    refine J.cond_d rfl (fun hin => ?_) (fun hin => ?_)
    · skip
      obtain ⟨c, r2, rfl⟩ := not_end hr1 (by omega)
      have hps := posn_succ hr1
      refine J.skip ?_
      refine J.seq ?_
      refine J.block ?_
      refine J.seq ?_
      refine J.quietH H hmix (by kernel_rfl) ?_
      refine JQ.go trivial (fun w H => RX.movev (v := Value.pointer _) rfl) ?_
      refine JQ.go trivial (fun w H => RX.nilCheck rfl) ?_
      refine JQ.go trivial (fun w H => RX.fieldAddr rfl fo76_0 rfl) ?_
      refine JQ.go trivial (fun w H => RX.load H rfl (i := 0) (v := .string ⟨s.toArray⟩) rfl rfl one9) ?_
      refine JQ.go trivial (fun w H => RX.movev (v := Value.pointer _) rfl) ?_
      refine JQ.go trivial (fun w H => RX.nilCheck rfl) ?_
      refine JQ.go trivial (fun w H => RX.fieldAddr rfl fo76_1 rfl) ?_
      refine JQ.go trivial (fun w H => RX.load H rfl (i := 0) (v := .int .i64 (posn s (c :: r2) : Nat)) rfl rfl one3) ?_
      refine JQ.go trivial (fun w H => RX.indexStr rfl rfl ud9 (b := c) (by omega) (by simpa using posn_get hr1)) ?_
      refine JQ.go trivial (fun w H => RX.assignv (v := Value.int _ _) rfl) ?_
      refine JQ.nil fun w H => ?_
      refine J.seq ?_
      refine J.seq ?_
      refine J.join (ι := Bool) (fun q => [(44, .bool q)]) (fun q w => q = decide (¬ ((48 ≤ c.toNat ∧ c.toNat ≤ 57) ∧ ¬ (k = 0 ∧ c.toNat = 48))) ∧ Hp w0 w (PB bp s (c :: r2) :: F)) [(0, _), (3, _), (4, _), (5, _)] ⟨rfl, rfl, rfl, rfl, trivial⟩ ?_ ?_
      rotate_left
      · skip
        intro k2 hk2
        refine J.region ?_
        refine JL.go trivial (RX.movev (v := Value.int _ _) rfl) ?_
        refine JL.go trivial (RX.lt rfl rfl) ?_
        refine JL.go trivial (RX.movev (v := Value.bool _) rfl) ?_
        refine JL.splitS 33 rfl (fun h3 => ?_) (fun h3 => ?_)
        · skip
          first | have h3p := of_decide_eq_true h3 | skip
          refine JL.no ⟨_, rfl, gno h3⟩ ?_
          refine JL.no ⟨_, rfl, gno h3⟩ ?_
          refine JL.go trivial (RX.pick_t rfl h3) ?_
          refine JL.go trivial (RX.movev (v := Value.bool _) rfl) ?_
          refine JL.no ⟨_, rfl, gno rfl⟩ ?_
          refine JL.no ⟨_, rfl, gno rfl⟩ ?_
          refine JL.no ⟨_, rfl, gno rfl⟩ ?_
          refine JL.no ⟨_, rfl, nofun⟩ ?_
          refine JL.no ⟨_, rfl, nofun⟩ ?_
          refine JL.no ⟨_, rfl, gno rfl⟩ ?_
          refine JL.go trivial (RX.pick_t rfl rfl) ?_
          refine JL.nil ?_
          first
          | exact hk2 true _ _ ⟨rfl, rfl, rfl, rfl, trivial⟩ ⟨rfl, trivial⟩ ⟨(decide_eq_true (by omega)).symm, H⟩
          | exact hk2 false _ _ ⟨rfl, rfl, rfl, rfl, trivial⟩ ⟨rfl, trivial⟩ ⟨(decide_eq_false (by omega)).symm, H⟩
          | exact hk2 _ _ _ ⟨rfl, rfl, rfl, rfl, trivial⟩ ⟨rfl, trivial⟩ ⟨by congr 1; rw [eq_iff_iff]; omega, H⟩
        · skip
          first | have h3p := of_decide_eq_false h3 | skip
          refine JL.go ⟨_, rfl, h3⟩ (RX.movev (v := Value.int _ _) rfl) ?_
          refine JL.go ⟨_, rfl, h3⟩ (RX.gt rfl rfl) ?_
          refine JL.go trivial (RX.pick_f rfl h3) ?_
          refine JL.go trivial (RX.movev (v := Value.bool _) rfl) ?_
          refine JL.splitS 37 rfl (fun h4 => ?_) (fun h4 => ?_)
          · skip
            first | have h4p := of_decide_eq_true h4 | skip
            refine JL.no ⟨_, rfl, gno h4⟩ ?_
            refine JL.no ⟨_, rfl, gno h4⟩ ?_
            refine JL.no ⟨_, rfl, gno h4⟩ ?_
            refine JL.no ⟨_, rfl, nofun⟩ ?_
            refine JL.no ⟨_, rfl, nofun⟩ ?_
            refine JL.no ⟨_, rfl, gno h4⟩ ?_
            refine JL.go trivial (RX.pick_t rfl h4) ?_
            refine JL.nil ?_
            first
            | exact hk2 true _ _ ⟨rfl, rfl, rfl, rfl, trivial⟩ ⟨rfl, trivial⟩ ⟨(decide_eq_true (by omega)).symm, H⟩
            | exact hk2 false _ _ ⟨rfl, rfl, rfl, rfl, trivial⟩ ⟨rfl, trivial⟩ ⟨(decide_eq_false (by omega)).symm, H⟩
            | exact hk2 _ _ _ ⟨rfl, rfl, rfl, rfl, trivial⟩ ⟨rfl, trivial⟩ ⟨by congr 1; rw [eq_iff_iff]; omega, H⟩
          · skip
            first | have h4p := of_decide_eq_false h4 | skip
            refine JL.go ⟨_, rfl, h4⟩ (RX.movev (v := Value.int _ _) rfl) ?_
            refine JL.go ⟨_, rfl, h4⟩ (RX.eq rfl rfl) ?_
            refine JL.go ⟨_, rfl, h4⟩ (RX.movev (v := Value.bool _) rfl) ?_
            refine JL.splitS 40 rfl (fun h5 => ?_) (fun h5 => ?_)
            · skip
              first | have h5p := of_decide_eq_true h5 | skip
              refine JL.go ⟨_, rfl, h5⟩ (RX.movev (v := Value.int _ _) rfl) ?_
              refine JL.go ⟨_, rfl, h5⟩ (RX.eq rfl rfl) ?_
              refine JL.go ⟨_, rfl, h4⟩ (RX.pick_t rfl h5) ?_
              refine JL.go trivial (RX.pick_f rfl h4) ?_
              refine JL.nil ?_
              first
              | exact hk2 true _ _ ⟨rfl, rfl, rfl, rfl, trivial⟩ ⟨rfl, trivial⟩ ⟨(decide_eq_true (by omega)).symm, H⟩
              | exact hk2 false _ _ ⟨rfl, rfl, rfl, rfl, trivial⟩ ⟨rfl, trivial⟩ ⟨(decide_eq_false (by omega)).symm, H⟩
              | exact hk2 _ _ _ ⟨rfl, rfl, rfl, rfl, trivial⟩ ⟨rfl, trivial⟩ ⟨by congr 1; rw [eq_iff_iff]; omega, H⟩
            · skip
              first | have h5p := of_decide_eq_false h5 | skip
              refine JL.no ⟨_, rfl, gno h5⟩ ?_
              refine JL.no ⟨_, rfl, gno h5⟩ ?_
              refine JL.go ⟨_, rfl, h4⟩ (RX.pick_f rfl h5) ?_
              refine JL.go trivial (RX.pick_f rfl h4) ?_
              refine JL.nil ?_
              first
              | exact hk2 true _ _ ⟨rfl, rfl, rfl, rfl, trivial⟩ ⟨rfl, trivial⟩ ⟨(decide_eq_true (by omega)).symm, H⟩
              | exact hk2 false _ _ ⟨rfl, rfl, rfl, rfl, trivial⟩ ⟨rfl, trivial⟩ ⟨(decide_eq_false (by omega)).symm, H⟩
              | exact hk2 _ _ _ ⟨rfl, rfl, rfl, rfl, trivial⟩ ⟨rfl, trivial⟩ ⟨by congr 1; rw [eq_iff_iff]; omega, H⟩
      · skip
        clear H
        rintro q ρ w ⟨hq, H⟩
        refine J.cond rfl (fun hbr => ?_) (fun hbr => ?_)
        · skip
          have hst := of_decide_eq_true (hq.symm.trans hbr)
          refine J.exit rfl ?_
          refine J.seq ?_
          refine J.seq ?_
          obtain ⟨rr, hfin, HH⟩ : ∃ rr, digs 6 0 r = (n, rr) ∧ Hp w0 w (PB bp s rr :: F) := by
            first
            | exact ⟨_, hdg.trans (digs_stop hst (by omega)), H⟩
            | exact ⟨_, by rw [hdg, show 6 - k = 0 by omega]; rfl, H⟩
            | exact ⟨[], by rw [hdg, end_of hr1 (Nat.le_antisymm posn_le (by omega))]; exact digs_out (by omega), by rw [← end_of hr1 (Nat.le_antisymm posn_le (by omega))]; exact H⟩
          replace H := HH
          refine J.region ?_
          refine JL.go trivial (RX.movev (v := Value.int _ _) rfl) ?_
          refine JL.go trivial (RX.eq rfl rfl) ?_
          refine JL.nil ?_
          refine J.cond_d rfl (fun hz => ?_) (fun hz => ?_)
          · skip
            have hz0 : n = 0 := by omega
            subst hz0
            refine J.regionP ?_
            refine JLP.go trivial (RX.movev (v := Value.pointer _) rfl) ?_
            refine JLP.go trivial (RX.nilCheck rfl) ?_
            refine JLP.go trivial (RX.fieldAddr rfl fo76_1 rfl) ?_
            refine JLP.go trivial (RX.load H rfl (i := 0) (v := .int .i64 (posn s (rr) : Nat)) rfl rfl one3) ?_
            refine JLP.go trivial (RX.makeInterface (v := Value.int _ _) rfl cn77) ?_
            refine JLP.doesP Tryd.func56 trivial (EX.panic rfl) (by rintro _ _ ⟨rfl, rfl⟩; exact .inr ⟨_, rfl, rr, by unfold numP; rw [hfin]; rfl, rfl, _, H⟩) (fun _ _ h => h.elim)
          · skip
            refine J.skip ?_
            refine J.seq ?_
            refine J.region ?_
            refine JL.go trivial (RX.movev (v := Value.int _ _) rfl) ?_
            refine JL.go trivial (RX.assignv (v := Value.int _ _) rfl) ?_
            refine JL.nil ?_
            refine J.ret1 (v := Value.int _ _) Tryd.func56 rfl rfl ?_
            exact .inl ⟨_, rfl, n, rr, by unfold numP; rw [hfin]; exact if_neg (by simp only; omega), rfl, by omega, H⟩
        · skip
          have hgo := Decidable.not_not.1 (of_decide_eq_false (hq.symm.trans hbr))
          rw [digs_go hgo (by omega)] at hdg
          have hpw2 := pow_step hn (show c.toNat - 48 ≤ 9 by omega)
          refine J.skip ?_
          refine J.seq ?_
          refine J.region ?_
          refine JL.go trivial (RX.movev (v := Value.int _ _) rfl) ?_
          refine JL.go trivial (RX.mul rfl rfl (w_i64 (r := ((10 * n : Nat) : Int)) (by omega) (by omega) (by omega))) ?_
          refine JL.go trivial (RX.movev (v := Value.int _ _) rfl) ?_
          refine JL.go trivial (RX.sub rfl rfl (w_u8 (r := ((c.toNat - 48 : Nat) : Int)) (by omega) (by omega) (by omega))) ?_
          refine JL.go trivial (RX.conv rfl (by rw [ki5]; rfl) ki3 (w_i64 (r := ((c.toNat - 48 : Nat) : Int)) rfl (by omega) (by omega))) ?_
          refine JL.go trivial (RX.add rfl rfl (w_i64 (r := ((10 * n + (c.toNat - 48) : Nat) : Int)) (by omega) (by omega) (by omega))) ?_
          refine JL.go trivial (RX.assignv (v := Value.int _ _) rfl) ?_
          refine JL.nil ?_
          refine J.region ?_
          refine JL.go trivial (RX.movev (v := Value.pointer _) rfl) ?_
          refine JL.go trivial (RX.nilCheck rfl) ?_
          refine JL.go trivial (RX.fieldAddr rfl fo76_1 rfl) ?_
          refine JL.go trivial (RX.load H rfl (i := 0) (v := .int .i64 (posn s (c :: r2) : Nat)) rfl rfl one3) ?_
          refine JL.go trivial (RX.add rfl rfl (w_i64 (r := ((posn s (r2) : Nat) : Int)) (by omega) (by omega) (by omega))) ?_
          refine JL.go trivial (RX.nilCheck rfl) ?_
          refine JL.go trivial (RX.fieldAddr rfl fo76_1 rfl) ?_
          refine JL.does trivial (EX.store (v := Value.int _ _) H rfl rfl (i := 0) (l' := [.string ⟨s.toArray⟩, .int .i64 (posn s (r2) : Nat)]) rfl rfl (by simp) sz3 rfl rfl) ?_
          rintro _ w H
          refine JL.nil ?_
          replace H : Hp w0 w (PB bp s r2 :: F) := H
          refine J.inBlock ?_
          refine J.region ?_
          refine JL.go trivial (RX.movev (v := Value.int _ _) rfl) ?_
          refine JL.go trivial (RX.add rfl rfl (w_i64 (r := ((k + 1 : Nat) : Int)) (by omega) (by omega) (by omega))) ?_
          refine JL.go trivial (RX.assignv (v := Value.int _ _) rfl) ?_
          refine JL.nil ?_
          exact IH (k + 1, 10 * n + (c.toNat - 48), r2) _ _ (by simp only; omega) ⟨rfl, trivial⟩ ⟨rfl, rfl, trivial⟩ ⟨by simp only; omega, hpw2, suf_tail hr1, hdg, H⟩
    · skip
      refine J.exit rfl ?_
      refine J.seq ?_
      refine J.seq ?_
      obtain ⟨rr, hfin, HH⟩ : ∃ rr, digs 6 0 r = (n, rr) ∧ Hp w0 w (PB bp s rr :: F) := by
        first
        | exact ⟨_, hdg.trans (digs_stop hst (by omega)), H⟩
        | exact ⟨_, by rw [hdg, show 6 - k = 0 by omega]; rfl, H⟩
        | exact ⟨[], by rw [hdg, end_of hr1 (Nat.le_antisymm posn_le (by omega))]; exact digs_out (by omega), by rw [← end_of hr1 (Nat.le_antisymm posn_le (by omega))]; exact H⟩
      replace H := HH
      refine J.region ?_
      refine JL.go trivial (RX.movev (v := Value.int _ _) rfl) ?_
      refine JL.go trivial (RX.eq rfl rfl) ?_
      refine JL.nil ?_
      refine J.cond_d rfl (fun hz => ?_) (fun hz => ?_)
      · skip
        have hz0 : n = 0 := by omega
        subst hz0
        refine J.regionP ?_
        refine JLP.go trivial (RX.movev (v := Value.pointer _) rfl) ?_
        refine JLP.go trivial (RX.nilCheck rfl) ?_
        refine JLP.go trivial (RX.fieldAddr rfl fo76_1 rfl) ?_
        refine JLP.go trivial (RX.load H rfl (i := 0) (v := .int .i64 (posn s (rr) : Nat)) rfl rfl one3) ?_
        refine JLP.go trivial (RX.makeInterface (v := Value.int _ _) rfl cn77) ?_
        refine JLP.doesP Tryd.func56 trivial (EX.panic rfl) (by rintro _ _ ⟨rfl, rfl⟩; exact .inr ⟨_, rfl, rr, by unfold numP; rw [hfin]; rfl, rfl, _, H⟩) (fun _ _ h => h.elim)
      · skip
        refine J.skip ?_
        refine J.seq ?_
        refine J.region ?_
        refine JL.go trivial (RX.movev (v := Value.int _ _) rfl) ?_
        refine JL.go trivial (RX.assignv (v := Value.int _ _) rfl) ?_
        refine JL.nil ?_
        refine J.ret1 (v := Value.int _ _) Tryd.func56 rfl rfl ?_
        exact .inl ⟨_, rfl, n, rr, by unfold numP; rw [hfin]; exact if_neg (by simp only; omega), rfl, by omega, H⟩
  · skip
    first | have hk6p := of_decide_eq_false hk6 | skip
    refine JQ.no ⟨_, rfl, gno hk6⟩ ?_
    refine JQ.no ⟨_, rfl, gno hk6⟩ ?_
    refine JQ.no ⟨_, rfl, gno hk6⟩ ?_
    refine JQ.no ⟨_, rfl, gno hk6⟩ ?_
    refine JQ.no ⟨_, rfl, gno hk6⟩ ?_
    refine JQ.no ⟨_, rfl, gno hk6⟩ ?_
    refine JQ.no ⟨_, rfl, gno hk6⟩ ?_
    refine JQ.no ⟨_, rfl, gno hk6⟩ ?_
    refine JQ.no ⟨_, rfl, gno hk6⟩ ?_
    refine JQ.no ⟨_, rfl, gno hk6⟩ ?_
    refine JQ.go trivial (fun w H => RX.pick_f rfl hk6) ?_
    refine JQ.nil fun w H => ?_
    refine J.cond_f rfl rfl ?_
    refine J.exit rfl ?_
    refine J.seq ?_
    refine J.seq ?_
    obtain ⟨rr, hfin, HH⟩ : ∃ rr, digs 6 0 r = (n, rr) ∧ Hp w0 w (PB bp s rr :: F) := by
      first
      | exact ⟨_, hdg.trans (digs_stop hst (by omega)), H⟩
      | exact ⟨_, by rw [hdg, show 6 - k = 0 by omega]; rfl, H⟩
      | exact ⟨[], by rw [hdg, end_of hr1 (Nat.le_antisymm posn_le (by omega))]; exact digs_out (by omega), by rw [← end_of hr1 (Nat.le_antisymm posn_le (by omega))]; exact H⟩
    replace H := HH
    refine J.region ?_
    refine JL.go trivial (RX.movev (v := Value.int _ _) rfl) ?_
    refine JL.go trivial (RX.eq rfl rfl) ?_
    refine JL.nil ?_
    refine J.cond_d rfl (fun hz => ?_) (fun hz => ?_)
    · skip
      have hz0 : n = 0 := by omega
      subst hz0
      refine J.regionP ?_
      refine JLP.go trivial (RX.movev (v := Value.pointer _) rfl) ?_
      refine JLP.go trivial (RX.nilCheck rfl) ?_
      refine JLP.go trivial (RX.fieldAddr rfl fo76_1 rfl) ?_
      refine JLP.go trivial (RX.load H rfl (i := 0) (v := .int .i64 (posn s (rr) : Nat)) rfl rfl one3) ?_
      refine JLP.go trivial (RX.makeInterface (v := Value.int _ _) rfl cn77) ?_
      refine JLP.doesP Tryd.func56 trivial (EX.panic rfl) (by rintro _ _ ⟨rfl, rfl⟩; exact .inr ⟨_, rfl, rr, by unfold numP; rw [hfin]; rfl, rfl, _, H⟩) (fun _ _ h => h.elim)
    · skip
      refine J.skip ?_
      refine J.seq ?_
      refine J.region ?_
      refine JL.go trivial (RX.movev (v := Value.int _ _) rfl) ?_
      refine JL.go trivial (RX.assignv (v := Value.int _ _) rfl) ?_
      refine JL.nil ?_
      refine J.ret1 (v := Value.int _ _) Tryd.func56 rfl rfl ?_
      exact .inl ⟨_, rfl, n, rr, by unfold numP; rw [hfin]; exact if_neg (by simp only; omega), rfl, by omega, H⟩
set_option maxHeartbeats 800000 in
theorem order_step {m : Nat} (ih : OrdC m) {w0 w : World} {F : List Seg} {s r : List UInt8} {bp : Nat} (hr : r <:+ s) (hs : s.length ≤ 1099511627776) (H : Hp w0 w (PB bp s r :: F)) (hm : r.length < m + 1) : RetP Tryd.prog 47 [.pointer (some ⟨bp, 0, none⟩)] w (fun v w' => ∃ t r' vs sg, pO (m + 1) r = (some t, r') ∧ v = .agg vs.toArray ∧ t.Own vs sg ∧ Hp w0 w' (sg :: PB bp s r' :: F)) (fun v w' => ∃ r', pO (m + 1) r = (none, r') ∧ v = lostV (posn s r') ∧ ∃ z, Hp w0 w' (PZ bp s z :: F)) := by
  refine Calls.of_J (n := 53) Tryd.func47 rfl rfl rfl ?_
  refine J.seq ?_
  refine J.region ?_
  refine JL.does trivial (EX.alloc H zr25 rfl) ?_
  rintro _ w ⟨b2, rfl, H⟩
  refine JL.nil ?_
  replace H := H.pull 1 rfl
  refine J.seq ?_
  refine J.seq ?_
  refine J.regionP ?_
  refine JLP.go trivial (RX.movev (v := Value.pointer _) rfl) ?_
  refine JLP.doesP Tryd.func47 trivial (EX.callP rfl cl55 rfl ((next_b hr hs H))) (by rintro _ _ ⟨rfl, rfl, H⟩; exact .inr ⟨_, rfl, [], rfl, rfl, _, (H.pull 1 rfl).drop⟩) ?_
  rintro _ w ⟨c, r2, rfl, rfl, H⟩
  have hr2 := suf_tail hr
  have hps := posn_succ hr
  simp only [List.length_cons] at hm
  refine JLP.nil ?_
  refine J.block ?_
  refine J.seq ?_
  refine J.region ?_
  refine JL.go trivial (RX.eq rfl rfl) ?_
  refine JL.go trivial (RX.assignv (v := Value.bool _) rfl) ?_
  refine JL.nil ?_
  refine J.cond_d rfl (fun h100 => ?_) (fun h100 => ?_)
  · skip
    have e100 : c.toNat = 100 := by omega
    have hpo : pO (m + 1) (c :: r2) = bindP (numP r2) fun n r => (some (.node 1 (n : Nat) []), r) := by rw [pO, if_pos e100]
    refine J.seq ?_
    refine J.regionP ?_
    refine JLP.go trivial (RX.movev (v := Value.pointer _) rfl) ?_
    refine JLP.doesP Tryd.func47 trivial (EX.callP rfl cl56 rfl ((number_b hr2 hs H))) (by rintro _ _ ⟨r3, hn, rfl, z, H⟩; exact .inr ⟨_, rfl, r3, by rw [hpo, hn]; rfl, rfl, z, (H.pull 1 rfl).drop⟩) ?_
    rintro _ w ⟨n, r3, hn, rfl, hn6, H⟩
    refine JLP.go trivial (RX.build (pv := [(0, .int .i64 1), (1, .int .i64 (n : Nat))]) (res := tv 1 (n : Nat) none 0 0) rfl (by kernel_rfl)) ?_
    refine JLP.does trivial (EX.storeAgg H rfl rfl (i := 1) (vs := tv 1 (n : Nat) none 0 0) (l' := tv 1 (n : Nat) none 0 0) rfl tv_cell (by simp) sz25 rfl rfl) ?_
    rintro _ w H
    refine JLP.nil ?_
    first
    | refine J.retc Tryd.func47 rfl H rfl (i := 1) (vs := tv 1 (n : Nat) none 0 0) rfl rfl ag25 ?_
    | refine J.retc Tryd.func47 rfl H rfl (i := 1) (vs := tv 2 (n : Nat) none 0 0) rfl rfl ag25 ?_
    | refine J.retc Tryd.func47 rfl H rfl (i := 4) (vs := tv 4 (n : Nat) (some ⟨bb, 0, none⟩) 1 1) rfl rfl ag25 ?_
    | refine J.retc Tryd.func47 rfl H rfl (i := 6) (vs := tv 3 0 (some ⟨bb, 0, none⟩) 2 2) rfl rfl ag25 ?_
    exact .inl ⟨_, rfl, .node 1 n [], r3, _, [], by rw [hpo, hn]; rfl, rfl, Tr.Own.leaf, ((H.pull 1 rfl).drop).nil⟩
  · skip
    have e100 : ¬ c.toNat = 100 := by omega
    refine J.seq ?_
    refine J.region ?_
    refine JL.go trivial (RX.eq rfl rfl) ?_
    refine JL.go trivial (RX.assignv (v := Value.bool _) rfl) ?_
    refine JL.nil ?_
    refine J.cond_d rfl (fun h102 => ?_) (fun h102 => ?_)
    · skip
      have e102 : c.toNat = 102 := by omega
      have hpo : pO (m + 1) (c :: r2) = bindP (numP r2) fun n r => (some (.node 2 (n : Nat) []), r) := by rw [pO, if_neg e100, if_pos e102]
      refine J.seq ?_
      refine J.regionP ?_
      refine JLP.go trivial (RX.movev (v := Value.pointer _) rfl) ?_
      refine JLP.doesP Tryd.func47 trivial (EX.callP rfl cl56 rfl ((number_b hr2 hs H))) (by rintro _ _ ⟨r3, hn, rfl, z, H⟩; exact .inr ⟨_, rfl, r3, by rw [hpo, hn]; rfl, rfl, z, (H.pull 1 rfl).drop⟩) ?_
      rintro _ w ⟨n, r3, hn, rfl, hn6, H⟩
      refine JLP.go trivial (RX.build (pv := [(0, .int .i64 2), (1, .int .i64 (n : Nat))]) (res := tv 2 (n : Nat) none 0 0) rfl (by kernel_rfl)) ?_
      refine JLP.does trivial (EX.storeAgg H rfl rfl (i := 1) (vs := tv 2 (n : Nat) none 0 0) (l' := tv 2 (n : Nat) none 0 0) rfl tv_cell (by simp) sz25 rfl rfl) ?_
      rintro _ w H
      refine JLP.nil ?_
      first
      | refine J.retc Tryd.func47 rfl H rfl (i := 1) (vs := tv 1 (n : Nat) none 0 0) rfl rfl ag25 ?_
      | refine J.retc Tryd.func47 rfl H rfl (i := 1) (vs := tv 2 (n : Nat) none 0 0) rfl rfl ag25 ?_
      | refine J.retc Tryd.func47 rfl H rfl (i := 4) (vs := tv 4 (n : Nat) (some ⟨bb, 0, none⟩) 1 1) rfl rfl ag25 ?_
      | refine J.retc Tryd.func47 rfl H rfl (i := 6) (vs := tv 3 0 (some ⟨bb, 0, none⟩) 2 2) rfl rfl ag25 ?_
      exact .inl ⟨_, rfl, .node 2 n [], r3, _, [], by rw [hpo, hn]; rfl, rfl, Tr.Own.leaf, ((H.pull 1 rfl).drop).nil⟩
    · skip
      have e102 : ¬ c.toNat = 102 := by omega
      refine J.seq ?_
      refine J.region ?_
      refine JL.go trivial (RX.eq rfl rfl) ?_
      refine JL.go trivial (RX.assignv (v := Value.bool _) rfl) ?_
      refine JL.nil ?_
      refine J.cond_d rfl (fun h98 => ?_) (fun h98 => ?_)
      · skip
        have e98 : c.toNat = 98 := by omega
        have hpo : pO (m + 1) (c :: r2) = bindP (numP r2) fun n r => bindP (takeP [40] r) fun _ r => bindP (pO m r) fun t r => bindP (takeP [41] r) fun _ r => (some (.node 4 (n : Nat) [t]), r) := by rw [pO, if_neg e100, if_neg e102, if_pos e98]
        refine J.seq ?_
        refine J.regionP ?_
        refine JLP.go trivial (RX.movev (v := Value.pointer _) rfl) ?_
        refine JLP.doesP Tryd.func47 trivial (EX.callP rfl cl56 rfl ((number_b hr2 hs H))) (by rintro _ _ ⟨r3, hn, rfl, z, H⟩; exact .inr ⟨_, rfl, r3, by rw [hpo, hn]; rfl, rfl, z, (H.pull 1 rfl).drop⟩) ?_
        rintro _ w ⟨n, r3, hn, rfl, hn6, H⟩
        have hr3 : r3 <:+ s := by have := num_suf r2; rw [hn] at this; exact this.trans hr2
        have hl3 := (num_suf r2).length_le
        rw [hn] at hl3
        rw [hn] at hpo
        refine JLP.go trivial (RX.assignv (v := Value.int _ _) rfl) ?_
        refine JLP.nil ?_
        refine J.seq ?_
        refine J.regionP ?_
        refine JLP.go trivial (RX.movev (v := Value.pointer _) rfl) ?_
        refine JLP.doesP Tryd.func47 trivial (EX.callP rfl cl57 rfl ((take_b hr3 hs H (t := [40]) (by decide)))) (by rintro _ _ ⟨r4, h4, rfl, z, H⟩; exact .inr ⟨_, rfl, r4, by rw [hpo]; simp only [bindP]; rw [h4], rfl, z, (H.pull 1 rfl).drop⟩) ?_
        rintro _ w ⟨rfl, r4, h4, H⟩
        have hr4 : r4 <:+ s := by have := take_suf [40] r3; rw [h4] at this; exact this.trans hr3
        have hl4 := (take_suf [40] r3).length_le
        rw [h4] at hl4
        simp only [bindP] at hpo
        rw [h4] at hpo
        simp only [bindP] at hpo
        refine JLP.nil ?_
        refine J.seq ?_
        refine J.regionP ?_
        refine JLP.go trivial (RX.movev (v := Value.pointer _) rfl) ?_
        refine JLP.doesP Tryd.func47 trivial (EX.callP rfl cl47 rfl ((ih _ _ _ _ _ bp hr4 hs (by simp only at hl3 hl4; omega) H))) (by rintro _ _ ⟨r5, h5, rfl, z, H⟩; exact .inr ⟨_, rfl, r5, by rw [hpo, h5], rfl, z, (H.pull 1 rfl).drop⟩) ?_
        rintro _ w ⟨t, r5, vt, st, h5, rfl, ho5, H⟩
        obtain ⟨k5, n5, p5, m5, c5, rfl⟩ := ho5.shape
        have hr5 : r5 <:+ s := by have := pO_suf m r4; rw [h5] at this; exact this.trans hr4
        rw [h5] at hpo
        simp only [bindP] at hpo
        refine JLP.does trivial (EX.alloc H zr25 rfl) ?_
        rintro _ w ⟨b4, rfl, H⟩
        refine JLP.does trivial (EX.storeAgg H rfl rfl (i := 0) (vs := tv k5 n5 p5 m5 c5) (l' := tv k5 n5 p5 m5 c5) rfl tv_cell (by simp) sz25 rfl rfl) ?_
        rintro _ w H
        refine JLP.nil ?_
        refine J.seq ?_
        replace H := H.pull 2 rfl
        refine J.regionP ?_
        refine JLP.go trivial (RX.movev (v := Value.pointer _) rfl) ?_
        refine JLP.doesP Tryd.func47 trivial (EX.callP rfl cl57 rfl ((take_b hr5 hs H (t := [41]) (by decide)))) (by rintro _ _ ⟨r6, h6, rfl, z, H⟩; exact .inr ⟨_, rfl, r6, by rw [hpo, h6], rfl, z, ((((H.pull 1 rfl).drop.pull 1 rfl).drop.pull 1 rfl).drop)⟩) ?_
        rintro _ w ⟨rfl, r6, h6, H⟩
        rw [h6] at hpo
        simp only [bindP] at hpo
        refine JLP.nil ?_
        refine J.seq ?_
        refine J.region ?_
        refine JL.go trivial (RX.movev (v := Value.int _ _) rfl) ?_
        refine JL.go trivial (RX.loadAgg H rfl (i := 1) (vs := tv k5 n5 p5 m5 c5) rfl rfl ag25) ?_
        refine JL.does trivial (EX.buildSlice (pv := [(0, .agg (tv k5 n5 p5 m5 c5).toArray)]) (l := tv k5 n5 p5 m5 c5) (e := 25) H rfl (by kernel_rfl)) ?_
        rintro _ w ⟨bb, rfl, H⟩
        refine JL.go trivial (RX.build (pv := [(0, .int .i64 4), (1, .int .i64 (n : Nat)), (2, .slice (some ⟨bb, 0, none⟩) 1 1)]) (res := tv 4 (n : Nat) (some ⟨bb, 0, none⟩) 1 1) rfl (by kernel_rfl)) ?_
        refine JL.does trivial (EX.storeAgg H rfl rfl (i := 4) (vs := tv 4 (n : Nat) (some ⟨bb, 0, none⟩) 1 1) (l' := tv 4 (n : Nat) (some ⟨bb, 0, none⟩) 1 1) rfl tv_cell (by simp) sz25 rfl rfl) ?_
        rintro _ w H
        refine JL.nil ?_
        first
        | refine J.retc Tryd.func47 rfl H rfl (i := 1) (vs := tv 1 (n : Nat) none 0 0) rfl rfl ag25 ?_
        | refine J.retc Tryd.func47 rfl H rfl (i := 1) (vs := tv 2 (n : Nat) none 0 0) rfl rfl ag25 ?_
        | refine J.retc Tryd.func47 rfl H rfl (i := 4) (vs := tv 4 (n : Nat) (some ⟨bb, 0, none⟩) 1 1) rfl rfl ag25 ?_
        | refine J.retc Tryd.func47 rfl H rfl (i := 6) (vs := tv 3 0 (some ⟨bb, 0, none⟩) 2 2) rfl rfl ag25 ?_
        exact .inl ⟨_, rfl, .node 4 n [t], r6, _, [(bb, cel (tv k5 n5 p5 m5 c5) 25)] ++ st, hpo, rfl, Tr.Own.mk (OwnSl.all rfl) (KidsOwn.one ho5), ((((((H.pull 2 rfl).drop.pull 3 rfl).drop.pull 2 rfl).pull 1 rfl).join))⟩
      · skip
        have e98 : ¬ c.toNat = 98 := by omega
        refine J.seq ?_
        refine J.region ?_
        refine JL.go trivial (RX.eq rfl rfl) ?_
        refine JL.go trivial (RX.assignv (v := Value.bool _) rfl) ?_
        refine JL.nil ?_
        refine J.cond_d rfl (fun h40 => ?_) (fun h40 => ?_)
        · skip
          have e40 : c.toNat = 40 := by omega
          have hpo : pO (m + 1) (c :: r2) = bindP (pO m r2) fun a r => bindP (takeP [32, 120, 32] r) fun _ r => bindP (pO m r) fun b r => bindP (takeP [41] r) fun _ r => (some (.node 3 0 [a, b]), r) := by rw [pO, if_neg e100, if_neg e102, if_neg e98, if_pos e40]
          refine J.seq ?_
          refine J.regionP ?_
          refine JLP.go trivial (RX.movev (v := Value.pointer _) rfl) ?_
          refine JLP.doesP Tryd.func47 trivial (EX.callP rfl cl47 rfl ((ih _ _ _ _ _ bp hr2 hs (by omega) H))) (by rintro _ _ ⟨r3, h3, rfl, z, H⟩; exact .inr ⟨_, rfl, r3, by rw [hpo, h3]; rfl, rfl, z, (H.pull 1 rfl).drop⟩) ?_
          rintro _ w ⟨ta, r3, va, sa, h3, rfl, hoa, H⟩
          obtain ⟨ka, na, pa, ma, ca, rfl⟩ := hoa.shape
          have hr3 : r3 <:+ s := by have := pO_suf m r2; rw [h3] at this; exact this.trans hr2
          have hl3 := (pO_suf m r2).length_le
          rw [h3] at hl3
          rw [h3] at hpo
          simp only [bindP] at hpo
          refine JLP.does trivial (EX.alloc H zr25 rfl) ?_
          rintro _ w ⟨b5, rfl, H⟩
          refine JLP.does trivial (EX.storeAgg H rfl rfl (i := 0) (vs := tv ka na pa ma ca) (l' := tv ka na pa ma ca) rfl tv_cell (by simp) sz25 rfl rfl) ?_
          rintro _ w H
          refine JLP.nil ?_
          refine J.seq ?_
          replace H := H.pull 2 rfl
          refine J.regionP ?_
          refine JLP.go trivial (RX.movev (v := Value.pointer _) rfl) ?_
          refine JLP.doesP Tryd.func47 trivial (EX.callP rfl cl57 rfl ((take_b hr3 hs H (t := [32, 120, 32]) (by decide)))) (by rintro _ _ ⟨r4, h4, rfl, z, H⟩; exact .inr ⟨_, rfl, r4, by rw [hpo, h4], rfl, z, ((((H.pull 1 rfl).drop.pull 1 rfl).drop.pull 1 rfl).drop)⟩) ?_
          rintro _ w ⟨rfl, r4, h4, H⟩
          have hr4 : r4 <:+ s := by have := take_suf [32, 120, 32] r3; rw [h4] at this; exact this.trans hr3
          have hl4 := (take_suf [32, 120, 32] r3).length_le
          rw [h4] at hl4
          rw [h4] at hpo
          simp only [bindP] at hpo
          refine JLP.nil ?_
          refine J.seq ?_
          refine J.regionP ?_
          refine JLP.go trivial (RX.movev (v := Value.pointer _) rfl) ?_
          refine JLP.doesP Tryd.func47 trivial (EX.callP rfl cl47 rfl ((ih _ _ _ _ _ bp hr4 hs (by simp only at hl3 hl4; omega) H))) (by rintro _ _ ⟨r5, h5, rfl, z, H⟩; exact .inr ⟨_, rfl, r5, by rw [hpo, h5], rfl, z, ((((H.pull 1 rfl).drop.pull 1 rfl).drop.pull 1 rfl).drop)⟩) ?_
          rintro _ w ⟨tb, r5, vb, sb, h5, rfl, hob, H⟩
          obtain ⟨kb, nb, pb, mb, cb, rfl⟩ := hob.shape
          have hr5 : r5 <:+ s := by have := pO_suf m r4; rw [h5] at this; exact this.trans hr4
          rw [h5] at hpo
          simp only [bindP] at hpo
          refine JLP.does trivial (EX.alloc H zr25 rfl) ?_
          rintro _ w ⟨b6, rfl, H⟩
          refine JLP.does trivial (EX.storeAgg H rfl rfl (i := 0) (vs := tv kb nb pb mb cb) (l' := tv kb nb pb mb cb) rfl tv_cell (by simp) sz25 rfl rfl) ?_
          rintro _ w H
          refine JLP.nil ?_
          refine J.seq ?_
          replace H := H.pull 2 rfl
          refine J.regionP ?_
          refine JLP.go trivial (RX.movev (v := Value.pointer _) rfl) ?_
          refine JLP.doesP Tryd.func47 trivial (EX.callP rfl cl57 rfl ((take_b hr5 hs H (t := [41]) (by decide)))) (by rintro _ _ ⟨r6, h6, rfl, z, H⟩; exact .inr ⟨_, rfl, r6, by rw [hpo, h6], rfl, z, ((((((H.pull 1 rfl).drop.pull 1 rfl).drop.pull 1 rfl).drop.pull 1 rfl).drop.pull 1 rfl).drop)⟩) ?_
          rintro _ w ⟨rfl, r6, h6, H⟩
          rw [h6] at hpo
          simp only [bindP] at hpo
          refine JLP.nil ?_
          refine J.seq ?_
          refine J.region ?_
          refine JL.go trivial (RX.loadAgg H rfl (i := 3) (vs := tv ka na pa ma ca) rfl rfl ag25) ?_
          refine JL.go trivial (RX.loadAgg H rfl (i := 1) (vs := tv kb nb pb mb cb) rfl rfl ag25) ?_
          refine JL.does trivial (EX.buildSlice (pv := [(0, .agg (tv ka na pa ma ca).toArray), (1, .agg (tv kb nb pb mb cb).toArray)]) (l := tv ka na pa ma ca ++ tv kb nb pb mb cb) (e := 25) H rfl (by kernel_rfl)) ?_
          rintro _ w ⟨bb, rfl, H⟩
          refine JL.go trivial (RX.build (pv := [(0, .int .i64 3), (2, .slice (some ⟨bb, 0, none⟩) 2 2)]) (res := tv 3 0 (some ⟨bb, 0, none⟩) 2 2) rfl (by kernel_rfl)) ?_
          refine JL.does trivial (EX.storeAgg H rfl rfl (i := 6) (vs := tv 3 0 (some ⟨bb, 0, none⟩) 2 2) (l' := tv 3 0 (some ⟨bb, 0, none⟩) 2 2) rfl tv_cell (by simp) sz25 rfl rfl) ?_
          rintro _ w H
          refine JL.nil ?_
          first
          | refine J.retc Tryd.func47 rfl H rfl (i := 1) (vs := tv 1 (n : Nat) none 0 0) rfl rfl ag25 ?_
          | refine J.retc Tryd.func47 rfl H rfl (i := 1) (vs := tv 2 (n : Nat) none 0 0) rfl rfl ag25 ?_
          | refine J.retc Tryd.func47 rfl H rfl (i := 4) (vs := tv 4 (n : Nat) (some ⟨bb, 0, none⟩) 1 1) rfl rfl ag25 ?_
          | refine J.retc Tryd.func47 rfl H rfl (i := 6) (vs := tv 3 0 (some ⟨bb, 0, none⟩) 2 2) rfl rfl ag25 ?_
          exact .inl ⟨_, rfl, .node 3 0 [ta, tb], r6, _, [(bb, cel (tv ka na pa ma ca ++ tv kb nb pb mb cb) 25)] ++ (sa ++ sb), hpo, rfl, Tr.Own.mk (OwnSl.all rfl) (KidsOwn.two hoa hob), by
            have H1 := (((H.pull 2 rfl).drop.pull 3 rfl).drop.pull 4 rfl).drop
            exact (((((H1.pull 2 rfl).pull 3 rfl).join.pull 1 rfl).join))⟩
        · skip
          have e40 : ¬ c.toNat = 40 := by omega
          refine J.skip ?_
          refine J.inBlock ?_
          refine J.regionP ?_
          refine JLP.go trivial (RX.movev (v := Value.pointer _) rfl) ?_
          refine JLP.go trivial (RX.nilCheck rfl) ?_
          refine JLP.go trivial (RX.fieldAddr rfl fo76_1 rfl) ?_
          refine JLP.go trivial (RX.load H rfl (i := 0) (v := .int .i64 (posn s (r2) : Nat)) rfl rfl one3) ?_
          refine JLP.go trivial (RX.sub rfl rfl (w_i64 (r := ((posn s (c :: r2) : Nat) : Int)) (by omega) (by omega) (by omega))) ?_
          refine JLP.go trivial (RX.makeInterface (v := Value.int _ _) rfl cn77) ?_
          refine JLP.doesP Tryd.func47 trivial (EX.panic rfl) (by rintro _ _ ⟨rfl, rfl⟩; exact .inr ⟨_, rfl, c :: r2, by rw [pO, if_neg e100, if_neg e102, if_neg e98, if_neg e40], rfl, _, (H.pull 1 rfl).drop⟩) (fun _ _ h => h.elim)
theorem order_b : ∀ m, OrdC m
  | 0 => fun _ _ _ _ _ _ _ _ h _ => absurd h (Nat.not_lt_zero _)
  | m + 1 => fun _ _ _ _ _ _ hr hs hm H => order_step (order_b m) hr hs H hm
end Go.Proofs.YtinbeaaloailnaaDoor
