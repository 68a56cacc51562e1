/- Part 17 of the proof that WholeSmall holds: what the functions on its way do, step by step. -/
import Derived.Test.YtfaokllgaambjaaGreatDoorZ1
import Derived.Test.YtfaokllgaambjaaGreatDoorZ2
import Derived.Test.YtfaokllgaambjaaGreatDoorZ3
import Derived.Test.YtfaokllgaambjaaGreatDoorZ4
import Derived.Test.YtfaokllgaambjaaGreatDoorZ5
import Derived.Test.YtfaokllgaambjaaGreatDoorZ7
import Derived.Test.YtfaokllgaambjaaGreatDoorZ9
import Derived.Test.YtfaokllgaambjaaGreatDoorZ11
import Derived.Test.YtfaokllgaambjaaGreatDoorZ12
import Derived.Test.YtfaokllgaambjaaGreatDoorZ14
import Derived.Test.YtfaokllgaambjaaGreatDoorZ15
import Derived.Test.YtfaokllgaambjaaGreatDoorZ16
set_option linter.unusedVariables false
set_option linter.unusedSimpArgs false
namespace Go.Proofs.YtfaokllgaambjaaGreatDoor
open Go Go.Eng
set_option maxRecDepth 100000
set_option maxHeartbeats 1600000
theorem cl102 : callable Tryz.prog 102 = true := by kernel_rfl
theorem cl132 : callable Tryz.prog 132 = true := by kernel_rfl
theorem cl133 : callable Tryz.prog 133 = true := by kernel_rfl
theorem cl134 : callable Tryz.prog 134 = true := by kernel_rfl
theorem cn159 : Tryz.prog.concrete 159 = true := by kernel_rfl
theorem fo158_0 : fieldOff Tryz.prog 158 0 = some 0 := by kernel_rfl
theorem fo158_1 : fieldOff Tryz.prog 158 1 = some 1 := by kernel_rfl
namespace Oo
def lostV (n : Nat) : Value := .iface 159 (.int .i64 (n : Nat))
def PZ (bp : Nat) (s : List UInt8) (z : Int) : Seg := [(bp, cel [.string ⟨s.toArray⟩, .int .i64 z] 158)]
def PB (bp : Nat) (s r : List UInt8) : Seg := PZ bp s (posn s r : Nat)
theorem end_of {s r : List UInt8} (h : r <:+ s) (he : posn s r = s.length) : r = [] := by
 have := h.length_le
 unfold posn at he
 exact List.eq_nil_of_length_eq_zero (by omega)
theorem not_end {s r : List UInt8} (h : r <:+ s) (he : posn s r ≠ s.length) : ∃ c r', r = c :: r' := by
 cases r with
 | nil => exact absurd (posn_nil s) he
 | cons c r' => exact ⟨c, r', rfl⟩
theorem drop_cons {t : List UInt8} {i : Nat} {c : UInt8} (h : t[i]? = some c) : t.drop i = c :: t.drop (i + 1) := by
 rw [List.drop_eq_getElem_cons (List.getElem?_eq_some_iff.1 h).1, (List.getElem?_eq_some_iff.1 h).2]
theorem u8_eq {a b : UInt8} (h : (a.toNat : Int) = (b.toNat : Int)) : a = b := UInt8.toNat_inj.1 (by omega)
theorem pow_small {k : Nat} (h : k ≤ 6) : 10 ^ k ≤ 1000000 := Nat.le_trans (Nat.pow_le_pow_right (by decide) h) (by decide)
theorem pow_step {k n d : Nat} (h : n + 1 ≤ 10 ^ k) (hd : d ≤ 9) : 10 * n + d + 1 ≤ 10 ^ (k + 1) := by
 rw [Nat.pow_succ]; omega
theorem digs_go {k n : Nat} {c : UInt8} {s : List UInt8} (h : (48 ≤ c.toNat ∧ c.toNat ≤ 57) ∧ ¬ (k = 0 ∧ c.toNat = 48)) (hk : k < 6) : digs (6 - k) n (c :: s) = digs (6 - (k + 1)) (10 * n + (c.toNat - 48)) s := by
 rw [show 6 - k = (6 - (k + 1)) + 1 by omega, digs, if_pos ⟨h.1, fun e => h.2 ⟨by omega, e.2⟩⟩]
theorem digs_stop {k n : Nat} {c : UInt8} {s : List UInt8} (h : ¬ ((48 ≤ c.toNat ∧ c.toNat ≤ 57) ∧ ¬ (k = 0 ∧ c.toNat = 48))) (hk : k < 6) : digs (6 - k) n (c :: s) = (n, c :: s) := by
 rw [show 6 - k = (6 - (k + 1)) + 1 by omega, digs, if_neg (fun e => h ⟨e.1, fun e2 => e.2 ⟨by omega, e2.2⟩⟩)]
theorem digs_out {k n : Nat} (hk : k < 6) : digs (6 - k) n [] = (n, []) := by
 rw [show 6 - k = (6 - (k + 1)) + 1 by omega, digs]
def OrdC (m : Nat) : Prop := ∀ (w0 w : World) (F : List Seg) (s r : List UInt8) (bp : Nat), r <:+ s → s.length ≤ 1099511627776 → r.length < m → Hp w0 w (PB bp s r :: F) →
  RetP Tryz.prog 102 [.pointer (some ⟨bp, 0, none⟩)] w (fun v w' => ∃ t r' vs sg, pO m r = (some t, r') ∧ v = .agg vs.toArray ∧ t.Own vs sg ∧ Hp w0 w' (sg :: PB bp s r' :: F))
    fun v w' => ∃ r', pO m r = (none, r') ∧ v = lostV (posn s r') ∧ ∃ z, Hp w0 w' (PZ bp s z :: F)
theorem next_b {w0 w : World} {F : List Seg} {s r : List UInt8} {bp : Nat} (hr : r <:+ s) (hs : s.length ≤ 1099511627776) (H : Hp w0 w (PB bp s r :: F)) : RetP Tryz.prog 132 [.pointer (some ⟨bp, 0, none⟩)] w (fun v w' => ∃ c r', r = c :: r' ∧ v = .int .u8 c.toNat ∧ Hp w0 w' (PB bp s r' :: F)) (fun v w' => r = [] ∧ v = lostV (posn s r) ∧ Hp w0 w' (PB bp s r :: F)) := by
 refine Calls.of_J (n := 35) Tryz.func132 rfl rfl rfl (J.seq (J.region (JL.g (RX.assign) (JL.nil (J.seq (J.seq (J.quietH H hmix (by kernel_rfl) (JQ.g (fun w H => RX.movev (v := .pointer _) rfl) (JQ.g (fun w H => RX.nilCheck rfl) (JQ.g (fun w H => RX.fieldAddr rfl fo158_1 rfl) (JQ.g (fun w H => RX.load H rfl (i := 0) (v := .int .i64 (posn s (r) : Nat)) rfl rfl one3) (JQ.g (fun w H => RX.movev (v := .pointer _) rfl) (JQ.g (fun w H => RX.nilCheck rfl) (JQ.g (fun w H => RX.fieldAddr rfl fo158_0 rfl) (JQ.g (fun w H => RX.load H rfl (i := 0) (v := .string ⟨s.toArray⟩) rfl rfl one9) (JQ.g (fun w H => RX.len_string rfl ud9 (r := (s.length : Int)) (by rw [b_size])) ?_))))))))))))))))
 refine JQ.g (fun w H => RX.eq rfl rfl) (JQ.nil fun w H => (J.cond_d rfl (fun hend => ?_) (fun hend => ?_)))
 ·
  have hnil : r = [] := end_of hr (by omega)
  refine J.regionP (JLP.go trivial (RX.movev (v := .pointer _) rfl) (JLP.go trivial (RX.nilCheck rfl) (JLP.go trivial (RX.fieldAddr rfl fo158_1 rfl) (JLP.go trivial (RX.load H rfl (i := 0) (v := .int .i64 (posn s (r) : Nat)) rfl rfl one3) (JLP.go trivial (RX.makeInterface (v := .int _ _) rfl cn159) (JLP.doesP Tryz.func132 trivial (EX.panic rfl) (by rintro _ _ ⟨rfl, rfl⟩; exact .inr ⟨_, rfl, hnil, rfl, H⟩) (fun _ _ h => h.elim)))))))
 ·
  obtain ⟨c, r2, rfl⟩ := not_end hr (by omega)
  have hps := posn_succ hr
  refine J.skip (J.seq (J.region (JL.mp rfl (JL.g (RX.nilCheck rfl) (JL.g (RX.fieldAddr rfl fo158_1 rfl) (JL.g (RX.load H rfl (i := 0) (v := .int .i64 (posn s (c :: r2) : Nat)) rfl rfl one3) (JL.g (RX.add rfl rfl (w_i64 (r := ((posn s (r2) : Nat) : Int)) (by omega) (by omega) (by omega))) (JL.g (RX.nilCheck rfl) (JL.g (RX.fieldAddr rfl fo158_1 rfl) (JL.e (EX.store (v := .int _ _) H rfl rfl (i := 0) (l' := [.string ⟨s.toArray⟩, .int .i64 (posn s (r2) : Nat)]) rfl rfl (by simp) sz3 rfl rfl) ?_))))))))))
  rintro _ w H
  refine JL.nil ?_
  replace H : Hp w0 w (PB bp s r2 :: F) := H
  refine J.seq (J.quietH H hmix (by kernel_rfl) (JQ.g (fun w H => RX.movev (v := .pointer _) rfl) (JQ.g (fun w H => RX.nilCheck rfl) (JQ.g (fun w H => RX.fieldAddr rfl fo158_0 rfl) (JQ.g (fun w H => RX.load H rfl (i := 0) (v := .string ⟨s.toArray⟩) rfl rfl one9) (JQ.g (fun w H => RX.movev (v := .pointer _) rfl) (JQ.g (fun w H => RX.nilCheck rfl) (JQ.g (fun w H => RX.fieldAddr rfl fo158_1 rfl) (JQ.g (fun w H => RX.load H rfl (i := 0) (v := .int .i64 (posn s (r2) : Nat)) rfl rfl one3) (JQ.g (fun w H => RX.sub rfl rfl (w_i64 (r := ((posn s (c :: r2) : Nat) : Int)) (by omega) (by omega) (by omega))) (JQ.g (fun w H => RX.indexStr rfl rfl ud9 (b := c) (by omega) (by simpa using posn_get hr)) ?_)))))))))))
  refine JQ.g (fun w H => RX.assignv (v := .int _ _) rfl) (JQ.nil fun w H => (J.ret1 (v := .int _ _) Tryz.func132 rfl rfl ?_))
  exact .inl ⟨_, rfl, c, r2, rfl, rfl, H⟩
theorem take_b {w0 w : World} {F : List Seg} {s r : List UInt8} {bp : Nat} (hr : r <:+ s) (hs : s.length ≤ 1099511627776) (H : Hp w0 w (PB bp s r :: F)) {t : List UInt8} (ht : t.length ≤ 1000) : RetP Tryz.prog 134 [.pointer (some ⟨bp, 0, none⟩), .string ⟨t.toArray⟩] w (fun v w' => v = .tuple #[] ∧ ∃ r', takeP t r = (some (), r') ∧ Hp w0 w' (PB bp s r' :: F)) (fun v w' => ∃ r', takeP t r = (none, r') ∧ v = lostV (posn s r') ∧ ∃ z, Hp w0 w' (PZ bp s z :: F)) := by
 refine Calls.of_J (n := 23) Tryz.func134 rfl rfl rfl (J.seq (J.region (JL.g (RX.movev (v := .string _) rfl) (JL.g (RX.len_string rfl ud9 (r := (t.length : Int)) (by rw [b_size])) ?_))))
 refine JL.g (RX.move) (JL.nil (J.block (J.loop (ι := Nat × List UInt8) (S := fun z => [(7, .int .i64 (z.1 : Nat))]) (Φ := fun z w => z.1 ≤ t.length ∧ z.2 <:+ s ∧ takeP t r = takeP (t.drop z.1) z.2 ∧ Hp w0 w (PB bp s z.2 :: F)) (μ := fun z => t.length - z.1) (C := [(0, _), (1, _), (6, _)]) (0, r) ⟨rfl, rfl, rfl, trivial⟩ ⟨rfl, trivial⟩ ?_ ?_)))
 · exact ⟨by simp, hr, rfl, H⟩
 clear H
 rintro ⟨i, r1⟩ ρ w ⟨hi, hr1, htk, H⟩ IH
 simp only at hi hr1 htk H
 dsimp only
 refine J.seq (J.region (JL.g (RX.lt rfl rfl) (JL.nil (J.seq (J.cond_d rfl (fun hlt => ?_) (fun hlt => ?_))))))
 ·
  obtain ⟨ct, hct⟩ : ∃ ct, t[i]? = some ct := ⟨_, List.getElem?_eq_getElem (by omega)⟩
  rw [drop_cons hct] at htk
  refine J.skip (J.seq (J.block (J.seq (J.region (JL.mi rfl (JL.ai rfl (JL.nil (J.seq (J.join (ι := Bool × UInt8 × List UInt8) (fun z => [(15, .bool z.1)]) (fun z w => r1 = z.2.1 :: z.2.2 ∧ z.1 = decide (¬ ((z.2.1.toNat : Int) = (ct.toNat : Int))) ∧ Hp w0 w (PB bp s z.2.2 :: F)) [(0, _), (1, _), (6, _), (7, _)] ⟨rfl, rfl, rfl, rfl, trivial⟩ ?_ ?_)))))))))
  rotate_left
  ·
   intro k2 hk2
   refine J.anyP hmix fun w hs => ?_
   replace H := H.same hs; clear hs
   refine JAP.all [0, 2, 3] (by kernel_rfl) (by decide) (⟨?_, ?_, ?_⟩)
   ·
    refine JOP.go rfl rfl trivial (RX.movev (v := .pointer _) rfl) (JAP.all [1, 2, 3] (by kernel_rfl) (by decide) (⟨?_, ?_, ?_⟩))
    ·
     refine JOP.doesP rfl rfl Tryz.func134 trivial (EX.callP rfl cl132 rfl ((next_b hr1 hs H))) (by rintro _ _ ⟨hnil, rfl, H⟩; exact .inr ⟨_, rfl, r1, by rw [htk, hnil]; rfl, rfl, _, H⟩) ?_
     rintro _ w ⟨c, r2, rfl, rfl, H⟩
     refine JAP.all [2, 3] (by kernel_rfl) (by decide) (⟨?_, ?_⟩)
     ·
      refine JOP.go rfl rfl trivial (RX.movev (v := .string _) rfl) (JAP.all [3] (by kernel_rfl) (by decide) (JOP.go rfl rfl trivial (RX.movev (v := .int _ _) rfl) (JAP.all [4] (by kernel_rfl) (by decide) (JOP.go rfl rfl trivial (RX.indexStr rfl rfl ud9 (b := ct) (by omega) (by simpa using hct)) ?_))))
      refine JAP.all [5] (by kernel_rfl) (by decide) (JOP.go rfl rfl trivial (RX.ne rfl rfl) (JAP.done (by kernel_rfl) ?_))
      exact hk2 (_, c, r2) _ _ ⟨rfl, rfl, rfl, rfl, trivial⟩ ⟨rfl, trivial⟩ ⟨rfl, rfl, H⟩
     ·
      refine JOP.go rfl rfl trivial (RX.movev (v := .int _ _) rfl) (JAP.all [2] (by kernel_rfl) (by decide) (JOP.go rfl rfl trivial (RX.movev (v := .string _) rfl) (JAP.all [4] (by kernel_rfl) (by decide) (JOP.go rfl rfl trivial (RX.indexStr rfl rfl ud9 (b := ct) (by omega) (by simpa using hct)) ?_))))
      refine JAP.all [5] (by kernel_rfl) (by decide) (JOP.go rfl rfl trivial (RX.ne rfl rfl) (JAP.done (by kernel_rfl) ?_))
      exact hk2 (_, c, r2) _ _ ⟨rfl, rfl, rfl, rfl, trivial⟩ ⟨rfl, trivial⟩ ⟨rfl, rfl, H⟩
    ·
     refine JOP.go rfl rfl trivial (RX.movev (v := .string _) rfl) (JAP.all [1, 3] (by kernel_rfl) (by decide) (⟨?_, ?_⟩))
     ·
      refine JOP.doesP rfl rfl Tryz.func134 trivial (EX.callP rfl cl132 rfl ((next_b hr1 hs H))) (by rintro _ _ ⟨hnil, rfl, H⟩; exact .inr ⟨_, rfl, r1, by rw [htk, hnil]; rfl, rfl, _, H⟩) ?_
      rintro _ w ⟨c, r2, rfl, rfl, H⟩
      refine JAP.all [3] (by kernel_rfl) (by decide) (JOP.go rfl rfl trivial (RX.movev (v := .int _ _) rfl) (JAP.all [4] (by kernel_rfl) (by decide) (JOP.go rfl rfl trivial (RX.indexStr rfl rfl ud9 (b := ct) (by omega) (by simpa using hct)) ?_)))
      refine JAP.all [5] (by kernel_rfl) (by decide) (JOP.go rfl rfl trivial (RX.ne rfl rfl) (JAP.done (by kernel_rfl) ?_))
      exact hk2 (_, c, r2) _ _ ⟨rfl, rfl, rfl, rfl, trivial⟩ ⟨rfl, trivial⟩ ⟨rfl, rfl, H⟩
     ·
      refine JOP.go rfl rfl trivial (RX.movev (v := .int _ _) rfl) (JAP.all [1, 4] (by kernel_rfl) (by decide) (⟨?_, ?_⟩))
      ·
       refine JOP.doesP rfl rfl Tryz.func134 trivial (EX.callP rfl cl132 rfl ((next_b hr1 hs H))) (by rintro _ _ ⟨hnil, rfl, H⟩; exact .inr ⟨_, rfl, r1, by rw [htk, hnil]; rfl, rfl, _, H⟩) ?_
       rintro _ w ⟨c, r2, rfl, rfl, H⟩
       refine JAP.all [4] (by kernel_rfl) (by decide) (JOP.go rfl rfl trivial (RX.indexStr rfl rfl ud9 (b := ct) (by omega) (by simpa using hct)) ?_)
       refine JAP.all [5] (by kernel_rfl) (by decide) (JOP.go rfl rfl trivial (RX.ne rfl rfl) (JAP.done (by kernel_rfl) ?_))
       exact hk2 (_, c, r2) _ _ ⟨rfl, rfl, rfl, rfl, trivial⟩ ⟨rfl, trivial⟩ ⟨rfl, rfl, H⟩
      ·
       refine JOP.go rfl rfl trivial (RX.indexStr rfl rfl ud9 (b := ct) (by omega) (by simpa using hct)) ?_
       refine JAP.all [1] (by kernel_rfl) (by decide) (JOP.doesP rfl rfl Tryz.func134 trivial (EX.callP rfl cl132 rfl ((next_b hr1 hs H))) (by rintro _ _ ⟨hnil, rfl, H⟩; exact .inr ⟨_, rfl, r1, by rw [htk, hnil]; rfl, rfl, _, H⟩) ?_)
       rintro _ w ⟨c, r2, rfl, rfl, H⟩
       refine JAP.all [5] (by kernel_rfl) (by decide) (JOP.go rfl rfl trivial (RX.ne rfl rfl) (JAP.done (by kernel_rfl) ?_))
       exact hk2 (_, c, r2) _ _ ⟨rfl, rfl, rfl, rfl, trivial⟩ ⟨rfl, trivial⟩ ⟨rfl, rfl, H⟩
    ·
     refine JOP.go rfl rfl trivial (RX.movev (v := .int _ _) rfl) (JAP.all [1, 2] (by kernel_rfl) (by decide) (⟨?_, ?_⟩))
     ·
      refine JOP.doesP rfl rfl Tryz.func134 trivial (EX.callP rfl cl132 rfl ((next_b hr1 hs H))) (by rintro _ _ ⟨hnil, rfl, H⟩; exact .inr ⟨_, rfl, r1, by rw [htk, hnil]; rfl, rfl, _, H⟩) ?_
      rintro _ w ⟨c, r2, rfl, rfl, H⟩
      refine JAP.all [2] (by kernel_rfl) (by decide) (JOP.go rfl rfl trivial (RX.movev (v := .string _) rfl) (JAP.all [4] (by kernel_rfl) (by decide) (JOP.go rfl rfl trivial (RX.indexStr rfl rfl ud9 (b := ct) (by omega) (by simpa using hct)) ?_)))
      refine JAP.all [5] (by kernel_rfl) (by decide) (JOP.go rfl rfl trivial (RX.ne rfl rfl) (JAP.done (by kernel_rfl) ?_))
      exact hk2 (_, c, r2) _ _ ⟨rfl, rfl, rfl, rfl, trivial⟩ ⟨rfl, trivial⟩ ⟨rfl, rfl, H⟩
     ·
      refine JOP.go rfl rfl trivial (RX.movev (v := .string _) rfl) (JAP.all [1, 4] (by kernel_rfl) (by decide) (⟨?_, ?_⟩))
      ·
       refine JOP.doesP rfl rfl Tryz.func134 trivial (EX.callP rfl cl132 rfl ((next_b hr1 hs H))) (by rintro _ _ ⟨hnil, rfl, H⟩; exact .inr ⟨_, rfl, r1, by rw [htk, hnil]; rfl, rfl, _, H⟩) ?_
       rintro _ w ⟨c, r2, rfl, rfl, H⟩
       refine JAP.all [4] (by kernel_rfl) (by decide) (JOP.go rfl rfl trivial (RX.indexStr rfl rfl ud9 (b := ct) (by omega) (by simpa using hct)) ?_)
       refine JAP.all [5] (by kernel_rfl) (by decide) (JOP.go rfl rfl trivial (RX.ne rfl rfl) (JAP.done (by kernel_rfl) ?_))
       exact hk2 (_, c, r2) _ _ ⟨rfl, rfl, rfl, rfl, trivial⟩ ⟨rfl, trivial⟩ ⟨rfl, rfl, H⟩
      ·
       refine JOP.go rfl rfl trivial (RX.indexStr rfl rfl ud9 (b := ct) (by omega) (by simpa using hct)) ?_
       refine JAP.all [1] (by kernel_rfl) (by decide) (JOP.doesP rfl rfl Tryz.func134 trivial (EX.callP rfl cl132 rfl ((next_b hr1 hs H))) (by rintro _ _ ⟨hnil, rfl, H⟩; exact .inr ⟨_, rfl, r1, by rw [htk, hnil]; rfl, rfl, _, H⟩) ?_)
       rintro _ w ⟨c, r2, rfl, rfl, H⟩
       refine JAP.all [5] (by kernel_rfl) (by decide) (JOP.go rfl rfl trivial (RX.ne rfl rfl) (JAP.done (by kernel_rfl) ?_))
       exact hk2 (_, c, r2) _ _ ⟨rfl, rfl, rfl, rfl, trivial⟩ ⟨rfl, trivial⟩ ⟨rfl, rfl, H⟩
   ·
    refine JOP.go rfl rfl trivial (RX.movev (v := .string _) rfl) (JAP.all [0, 3] (by kernel_rfl) (by decide) (⟨?_, ?_⟩))
    ·
     refine JOP.go rfl rfl trivial (RX.movev (v := .pointer _) rfl) (JAP.all [1, 3] (by kernel_rfl) (by decide) (⟨?_, ?_⟩))
     ·
      refine JOP.doesP rfl rfl Tryz.func134 trivial (EX.callP rfl cl132 rfl ((next_b hr1 hs H))) (by rintro _ _ ⟨hnil, rfl, H⟩; exact .inr ⟨_, rfl, r1, by rw [htk, hnil]; rfl, rfl, _, H⟩) ?_
      rintro _ w ⟨c, r2, rfl, rfl, H⟩
      refine JAP.all [3] (by kernel_rfl) (by decide) (JOP.go rfl rfl trivial (RX.movev (v := .int _ _) rfl) (JAP.all [4] (by kernel_rfl) (by decide) (JOP.go rfl rfl trivial (RX.indexStr rfl rfl ud9 (b := ct) (by omega) (by simpa using hct)) ?_)))
      refine JAP.all [5] (by kernel_rfl) (by decide) (JOP.go rfl rfl trivial (RX.ne rfl rfl) (JAP.done (by kernel_rfl) ?_))
      exact hk2 (_, c, r2) _ _ ⟨rfl, rfl, rfl, rfl, trivial⟩ ⟨rfl, trivial⟩ ⟨rfl, rfl, H⟩
     ·
      refine JOP.go rfl rfl trivial (RX.movev (v := .int _ _) rfl) (JAP.all [1, 4] (by kernel_rfl) (by decide) (⟨?_, ?_⟩))
      ·
       refine JOP.doesP rfl rfl Tryz.func134 trivial (EX.callP rfl cl132 rfl ((next_b hr1 hs H))) (by rintro _ _ ⟨hnil, rfl, H⟩; exact .inr ⟨_, rfl, r1, by rw [htk, hnil]; rfl, rfl, _, H⟩) ?_
       rintro _ w ⟨c, r2, rfl, rfl, H⟩
       refine JAP.all [4] (by kernel_rfl) (by decide) (JOP.go rfl rfl trivial (RX.indexStr rfl rfl ud9 (b := ct) (by omega) (by simpa using hct)) ?_)
       refine JAP.all [5] (by kernel_rfl) (by decide) (JOP.go rfl rfl trivial (RX.ne rfl rfl) (JAP.done (by kernel_rfl) ?_))
       exact hk2 (_, c, r2) _ _ ⟨rfl, rfl, rfl, rfl, trivial⟩ ⟨rfl, trivial⟩ ⟨rfl, rfl, H⟩
      ·
       refine JOP.go rfl rfl trivial (RX.indexStr rfl rfl ud9 (b := ct) (by omega) (by simpa using hct)) ?_
       refine JAP.all [1] (by kernel_rfl) (by decide) (JOP.doesP rfl rfl Tryz.func134 trivial (EX.callP rfl cl132 rfl ((next_b hr1 hs H))) (by rintro _ _ ⟨hnil, rfl, H⟩; exact .inr ⟨_, rfl, r1, by rw [htk, hnil]; rfl, rfl, _, H⟩) ?_)
       rintro _ w ⟨c, r2, rfl, rfl, H⟩
       refine JAP.all [5] (by kernel_rfl) (by decide) (JOP.go rfl rfl trivial (RX.ne rfl rfl) (JAP.done (by kernel_rfl) ?_))
       exact hk2 (_, c, r2) _ _ ⟨rfl, rfl, rfl, rfl, trivial⟩ ⟨rfl, trivial⟩ ⟨rfl, rfl, H⟩
    ·
     refine JOP.go rfl rfl trivial (RX.movev (v := .int _ _) rfl) (JAP.all [0, 4] (by kernel_rfl) (by decide) (⟨?_, ?_⟩))
     ·
      refine JOP.go rfl rfl trivial (RX.movev (v := .pointer _) rfl) (JAP.all [1, 4] (by kernel_rfl) (by decide) (⟨?_, ?_⟩))
      ·
       refine JOP.doesP rfl rfl Tryz.func134 trivial (EX.callP rfl cl132 rfl ((next_b hr1 hs H))) (by rintro _ _ ⟨hnil, rfl, H⟩; exact .inr ⟨_, rfl, r1, by rw [htk, hnil]; rfl, rfl, _, H⟩) ?_
       rintro _ w ⟨c, r2, rfl, rfl, H⟩
       refine JAP.all [4] (by kernel_rfl) (by decide) (JOP.go rfl rfl trivial (RX.indexStr rfl rfl ud9 (b := ct) (by omega) (by simpa using hct)) ?_)
       refine JAP.all [5] (by kernel_rfl) (by decide) (JOP.go rfl rfl trivial (RX.ne rfl rfl) (JAP.done (by kernel_rfl) ?_))
       exact hk2 (_, c, r2) _ _ ⟨rfl, rfl, rfl, rfl, trivial⟩ ⟨rfl, trivial⟩ ⟨rfl, rfl, H⟩
      ·
       refine JOP.go rfl rfl trivial (RX.indexStr rfl rfl ud9 (b := ct) (by omega) (by simpa using hct)) ?_
       refine JAP.all [1] (by kernel_rfl) (by decide) (JOP.doesP rfl rfl Tryz.func134 trivial (EX.callP rfl cl132 rfl ((next_b hr1 hs H))) (by rintro _ _ ⟨hnil, rfl, H⟩; exact .inr ⟨_, rfl, r1, by rw [htk, hnil]; rfl, rfl, _, H⟩) ?_)
       rintro _ w ⟨c, r2, rfl, rfl, H⟩
       refine JAP.all [5] (by kernel_rfl) (by decide) (JOP.go rfl rfl trivial (RX.ne rfl rfl) (JAP.done (by kernel_rfl) ?_))
       exact hk2 (_, c, r2) _ _ ⟨rfl, rfl, rfl, rfl, trivial⟩ ⟨rfl, trivial⟩ ⟨rfl, rfl, H⟩
     ·
      refine JOP.go rfl rfl trivial (RX.indexStr rfl rfl ud9 (b := ct) (by omega) (by simpa using hct)) ?_
      refine JAP.all [0] (by kernel_rfl) (by decide) (JOP.go rfl rfl trivial (RX.movev (v := .pointer _) rfl) (JAP.all [1] (by kernel_rfl) (by decide) (JOP.doesP rfl rfl Tryz.func134 trivial (EX.callP rfl cl132 rfl ((next_b hr1 hs H))) (by rintro _ _ ⟨hnil, rfl, H⟩; exact .inr ⟨_, rfl, r1, by rw [htk, hnil]; rfl, rfl, _, H⟩) ?_)))
      rintro _ w ⟨c, r2, rfl, rfl, H⟩
      refine JAP.all [5] (by kernel_rfl) (by decide) (JOP.go rfl rfl trivial (RX.ne rfl rfl) (JAP.done (by kernel_rfl) ?_))
      exact hk2 (_, c, r2) _ _ ⟨rfl, rfl, rfl, rfl, trivial⟩ ⟨rfl, trivial⟩ ⟨rfl, rfl, H⟩
   ·
    refine JOP.go rfl rfl trivial (RX.movev (v := .int _ _) rfl) (JAP.all [0, 2] (by kernel_rfl) (by decide) (⟨?_, ?_⟩))
    ·
     refine JOP.go rfl rfl trivial (RX.movev (v := .pointer _) rfl) (JAP.all [1, 2] (by kernel_rfl) (by decide) (⟨?_, ?_⟩))
     ·
      refine JOP.doesP rfl rfl Tryz.func134 trivial (EX.callP rfl cl132 rfl ((next_b hr1 hs H))) (by rintro _ _ ⟨hnil, rfl, H⟩; exact .inr ⟨_, rfl, r1, by rw [htk, hnil]; rfl, rfl, _, H⟩) ?_
      rintro _ w ⟨c, r2, rfl, rfl, H⟩
      refine JAP.all [2] (by kernel_rfl) (by decide) (JOP.go rfl rfl trivial (RX.movev (v := .string _) rfl) (JAP.all [4] (by kernel_rfl) (by decide) (JOP.go rfl rfl trivial (RX.indexStr rfl rfl ud9 (b := ct) (by omega) (by simpa using hct)) ?_)))
      refine JAP.all [5] (by kernel_rfl) (by decide) (JOP.go rfl rfl trivial (RX.ne rfl rfl) (JAP.done (by kernel_rfl) ?_))
      exact hk2 (_, c, r2) _ _ ⟨rfl, rfl, rfl, rfl, trivial⟩ ⟨rfl, trivial⟩ ⟨rfl, rfl, H⟩
     ·
      refine JOP.go rfl rfl trivial (RX.movev (v := .string _) rfl) (JAP.all [1, 4] (by kernel_rfl) (by decide) (⟨?_, ?_⟩))
      ·
       refine JOP.doesP rfl rfl Tryz.func134 trivial (EX.callP rfl cl132 rfl ((next_b hr1 hs H))) (by rintro _ _ ⟨hnil, rfl, H⟩; exact .inr ⟨_, rfl, r1, by rw [htk, hnil]; rfl, rfl, _, H⟩) ?_
       rintro _ w ⟨c, r2, rfl, rfl, H⟩
       refine JAP.all [4] (by kernel_rfl) (by decide) (JOP.go rfl rfl trivial (RX.indexStr rfl rfl ud9 (b := ct) (by omega) (by simpa using hct)) ?_)
       refine JAP.all [5] (by kernel_rfl) (by decide) (JOP.go rfl rfl trivial (RX.ne rfl rfl) (JAP.done (by kernel_rfl) ?_))
       exact hk2 (_, c, r2) _ _ ⟨rfl, rfl, rfl, rfl, trivial⟩ ⟨rfl, trivial⟩ ⟨rfl, rfl, H⟩
      ·
       refine JOP.go rfl rfl trivial (RX.indexStr rfl rfl ud9 (b := ct) (by omega) (by simpa using hct)) ?_
       refine JAP.all [1] (by kernel_rfl) (by decide) (JOP.doesP rfl rfl Tryz.func134 trivial (EX.callP rfl cl132 rfl ((next_b hr1 hs H))) (by rintro _ _ ⟨hnil, rfl, H⟩; exact .inr ⟨_, rfl, r1, by rw [htk, hnil]; rfl, rfl, _, H⟩) ?_)
       rintro _ w ⟨c, r2, rfl, rfl, H⟩
       refine JAP.all [5] (by kernel_rfl) (by decide) (JOP.go rfl rfl trivial (RX.ne rfl rfl) (JAP.done (by kernel_rfl) ?_))
       exact hk2 (_, c, r2) _ _ ⟨rfl, rfl, rfl, rfl, trivial⟩ ⟨rfl, trivial⟩ ⟨rfl, rfl, H⟩
    ·
     refine JOP.go rfl rfl trivial (RX.movev (v := .string _) rfl) (JAP.all [0, 4] (by kernel_rfl) (by decide) (⟨?_, ?_⟩))
     ·
      refine JOP.go rfl rfl trivial (RX.movev (v := .pointer _) rfl) (JAP.all [1, 4] (by kernel_rfl) (by decide) (⟨?_, ?_⟩))
      ·
       refine JOP.doesP rfl rfl Tryz.func134 trivial (EX.callP rfl cl132 rfl ((next_b hr1 hs H))) (by rintro _ _ ⟨hnil, rfl, H⟩; exact .inr ⟨_, rfl, r1, by rw [htk, hnil]; rfl, rfl, _, H⟩) ?_
       rintro _ w ⟨c, r2, rfl, rfl, H⟩
       refine JAP.all [4] (by kernel_rfl) (by decide) (JOP.go rfl rfl trivial (RX.indexStr rfl rfl ud9 (b := ct) (by omega) (by simpa using hct)) ?_)
       refine JAP.all [5] (by kernel_rfl) (by decide) (JOP.go rfl rfl trivial (RX.ne rfl rfl) (JAP.done (by kernel_rfl) ?_))
       exact hk2 (_, c, r2) _ _ ⟨rfl, rfl, rfl, rfl, trivial⟩ ⟨rfl, trivial⟩ ⟨rfl, rfl, H⟩
      ·
       refine JOP.go rfl rfl trivial (RX.indexStr rfl rfl ud9 (b := ct) (by omega) (by simpa using hct)) ?_
       refine JAP.all [1] (by kernel_rfl) (by decide) (JOP.doesP rfl rfl Tryz.func134 trivial (EX.callP rfl cl132 rfl ((next_b hr1 hs H))) (by rintro _ _ ⟨hnil, rfl, H⟩; exact .inr ⟨_, rfl, r1, by rw [htk, hnil]; rfl, rfl, _, H⟩) ?_)
       rintro _ w ⟨c, r2, rfl, rfl, H⟩
       refine JAP.all [5] (by kernel_rfl) (by decide) (JOP.go rfl rfl trivial (RX.ne rfl rfl) (JAP.done (by kernel_rfl) ?_))
       exact hk2 (_, c, r2) _ _ ⟨rfl, rfl, rfl, rfl, trivial⟩ ⟨rfl, trivial⟩ ⟨rfl, rfl, H⟩
     ·
      refine JOP.go rfl rfl trivial (RX.indexStr rfl rfl ud9 (b := ct) (by omega) (by simpa using hct)) ?_
      refine JAP.all [0] (by kernel_rfl) (by decide) (JOP.go rfl rfl trivial (RX.movev (v := .pointer _) rfl) (JAP.all [1] (by kernel_rfl) (by decide) (JOP.doesP rfl rfl Tryz.func134 trivial (EX.callP rfl cl132 rfl ((next_b hr1 hs H))) (by rintro _ _ ⟨hnil, rfl, H⟩; exact .inr ⟨_, rfl, r1, by rw [htk, hnil]; rfl, rfl, _, H⟩) ?_)))
      rintro _ w ⟨c, r2, rfl, rfl, H⟩
      refine JAP.all [5] (by kernel_rfl) (by decide) (JOP.go rfl rfl trivial (RX.ne rfl rfl) (JAP.done (by kernel_rfl) ?_))
      exact hk2 (_, c, r2) _ _ ⟨rfl, rfl, rfl, rfl, trivial⟩ ⟨rfl, trivial⟩ ⟨rfl, rfl, H⟩
  ·
   clear H
   rintro ⟨q, c, r2⟩ ρ w ⟨hrc, hq, H⟩
   simp only at hrc hq H
   subst hrc
   have hps := posn_succ hr1
   try dsimp only
   refine J.cond rfl (fun hne => ?_) (fun hne => ?_)
   ·
    have hcc : c ≠ ct := fun h => of_decide_eq_true (hq.symm.trans hne) (by rw [h])
    refine J.regionP (JLP.go trivial (RX.movev (v := .pointer _) rfl) (JLP.go trivial (RX.nilCheck rfl) (JLP.go trivial (RX.fieldAddr rfl fo158_1 rfl) (JLP.go trivial (RX.load H rfl (i := 0) (v := .int .i64 (posn s (r2) : Nat)) rfl rfl one3) (JLP.go trivial (RX.sub rfl rfl (w_i64 (r := ((posn s (c :: r2) : Nat) : Int)) (by omega) (by omega) (by omega))) (JLP.go trivial (RX.makeInterface (v := .int _ _) rfl cn159) (JLP.doesP Tryz.func134 trivial (EX.panic rfl) (by rintro _ _ ⟨rfl, rfl⟩; exact .inr ⟨_, rfl, c :: r2, by rw [htk, takeP, if_neg hcc], rfl, _, H⟩) (fun _ _ h => h.elim))))))))
   ·
    have hcc : c = ct := u8_eq (Decidable.not_not.1 (of_decide_eq_false (hq.symm.trans hne)))
    rw [takeP, if_pos hcc] at htk
    refine J.skip (J.inBlock (J.region (JL.g (RX.add rfl rfl (w_i64 (r := ((i + 1 : Nat) : Int)) (by omega) (by omega) (by omega))) (JL.mi rfl (JL.nil ?_)))))
    exact IH (i + 1, r2) _ _ (by simp only; omega) ⟨rfl, rfl, rfl, trivial⟩ ⟨rfl, trivial⟩ ⟨by simp only; omega, suf_tail hr1, htk, H⟩
 ·
  have hit : i = t.length := by omega
  subst hit
  rw [List.drop_length, takeP] at htk
  refine J.exit rfl (J.end0 Tryz.func134 rfl ?_)
  exact .inl ⟨_, rfl, rfl, r1, htk, H⟩
theorem number_b {w0 w : World} {F : List Seg} {s r : List UInt8} {bp : Nat} (hr : r <:+ s) (hs : s.length ≤ 1099511627776) (H : Hp w0 w (PB bp s r :: F)) : RetP Tryz.prog 133 [.pointer (some ⟨bp, 0, none⟩)] w (fun v w' => ∃ n r', numP r = (some n, r') ∧ v = .int .i64 (n : Nat) ∧ n ≤ 999999 ∧ Hp w0 w' (PB bp s r' :: F)) (fun v w' => ∃ r', numP r = (none, r') ∧ v = lostV (posn s r') ∧ ∃ z, Hp w0 w' (PZ bp s z :: F)) := by
 refine Calls.of_J (n := 66) Tryz.func133 rfl rfl rfl (J.seq (J.region (JL.g (RX.assign) (JL.nil (J.seq (J.region (JL.g (RX.assign) (JL.nil (J.seq (J.seq (J.region (JL.g (RX.assign) (JL.nil (J.block (J.loop (ι := Nat × Nat × List UInt8) (S := fun z => [(3, .int .i64 (z.2.1 : Nat)), (4, .int .i64 (z.1 : Nat))]) (Φ := fun z w => z.1 ≤ 6 ∧ z.2.1 + 1 ≤ 10 ^ z.1 ∧ z.2.2 <:+ s ∧ digs 6 0 r = digs (6 - z.1) z.2.1 z.2.2 ∧ Hp w0 w (PB bp s z.2.2 :: F)) (μ := fun z => 6 - z.1) (C := [(0, _)]) (0, 0, r) ⟨rfl, trivial⟩ ⟨rfl, rfl, trivial⟩ ?_ ?_)))))))))))))))
 · exact ⟨by simp, by simp, hr, rfl, H⟩
 clear H
 rintro ⟨k, n, r1⟩ ρ w ⟨hk, hn, hr1, hdg, H⟩ IH
 simp only at hk hn hr1 hdg H
 have hpw := pow_small hk
 dsimp only
 refine J.seq (J.seq (J.quietH H hmix (by kernel_rfl) (JQ.g (fun w H => RX.movev (v := .int _ _) rfl) (JQ.g (fun w H => RX.lt rfl rfl) (JQ.g (fun w H => RX.movev (v := .bool _) rfl) (JQ.splitS 8 rfl (fun hk6 => ?_) (fun hk6 => ?_)))))))
 ·
  first | have hk6p := of_decide_eq_true hk6 | skip
  refine JQ.go ⟨_, rfl, hk6⟩ (fun w H => RX.movev (v := .pointer _) rfl) (JQ.go ⟨_, rfl, hk6⟩ (fun w H => RX.nilCheck rfl) (JQ.go ⟨_, rfl, hk6⟩ (fun w H => RX.fieldAddr rfl fo158_1 rfl) (JQ.go ⟨_, rfl, hk6⟩ (fun w H => RX.load H rfl (i := 0) (v := .int .i64 (posn s (r1) : Nat)) rfl rfl one3) (JQ.go ⟨_, rfl, hk6⟩ (fun w H => RX.movev (v := .pointer _) rfl) (JQ.go ⟨_, rfl, hk6⟩ (fun w H => RX.nilCheck rfl) (JQ.go ⟨_, rfl, hk6⟩ (fun w H => RX.fieldAddr rfl fo158_0 rfl) (JQ.go ⟨_, rfl, hk6⟩ (fun w H => RX.load H rfl (i := 0) (v := .string ⟨s.toArray⟩) rfl rfl one9) (JQ.go ⟨_, rfl, hk6⟩ (fun w H => RX.len_string rfl ud9 (r := (s.length : Int)) (by rw [b_size])) ?_))))))))
  refine JQ.go ⟨_, rfl, hk6⟩ (fun w H => RX.lt rfl rfl) (JQ.g (fun w H => RX.pick_t rfl hk6) (JQ.nil fun w H => (J.cond_d rfl (fun hin => ?_) (fun hin => ?_))))
  ·
   obtain ⟨c, r2, rfl⟩ := not_end hr1 (by omega)
   have hps := posn_succ hr1
   refine J.skip (J.seq (J.block (J.seq (J.quietH H hmix (by kernel_rfl) (JQ.g (fun w H => RX.movev (v := .pointer _) rfl) (JQ.g (fun w H => RX.nilCheck rfl) (JQ.g (fun w H => RX.fieldAddr rfl fo158_0 rfl) (JQ.g (fun w H => RX.load H rfl (i := 0) (v := .string ⟨s.toArray⟩) rfl rfl one9) (JQ.g (fun w H => RX.movev (v := .pointer _) rfl) (JQ.g (fun w H => RX.nilCheck rfl) (JQ.g (fun w H => RX.fieldAddr rfl fo158_1 rfl) (JQ.g (fun w H => RX.load H rfl (i := 0) (v := .int .i64 (posn s (c :: r2) : Nat)) rfl rfl one3) (JQ.g (fun w H => RX.indexStr rfl rfl ud9 (b := c) (by omega) (by simpa using posn_get hr1)) ?_)))))))))))))
   refine JQ.g (fun w H => RX.assignv (v := .int _ _) rfl) (JQ.nil fun w H => (J.seq (J.seq (J.join (ι := Bool) (fun q => [(44, .bool q)]) (fun q w => q = decide (¬ ((48 ≤ c.toNat ∧ c.toNat ≤ 57) ∧ ¬ (k = 0 ∧ c.toNat = 48))) ∧ Hp w0 w (PB bp s (c :: r2) :: F)) [(0, _), (3, _), (4, _), (5, _)] ⟨rfl, rfl, rfl, rfl, trivial⟩ ?_ ?_))))
   rotate_left
   ·
    intro k2 hk2
    refine J.region (JL.mi rfl (JL.g (RX.lt rfl rfl) (JL.mb rfl (JL.splitS 33 rfl (fun h3 => ?_) (fun h3 => ?_)))))
    ·
     first | have h3p := of_decide_eq_true h3 | skip
     refine JL.no ⟨_, rfl, gno h3⟩ (JL.no ⟨_, rfl, gno h3⟩ (JL.g (RX.pick_t rfl h3) (JL.mb rfl (JL.no ⟨_, rfl, gno rfl⟩ (JL.no ⟨_, rfl, gno rfl⟩ (JL.no ⟨_, rfl, gno rfl⟩ (JL.no ⟨_, rfl, nofun⟩ (JL.no ⟨_, rfl, nofun⟩ (JL.no ⟨_, rfl, gno rfl⟩ (JL.g (RX.pick_t rfl rfl) (JL.nil ?_)))))))))))
     first
     | exact hk2 true _ _ ⟨rfl, rfl, rfl, rfl, trivial⟩ ⟨rfl, trivial⟩ ⟨(decide_eq_true (by omega)).symm, H⟩
     | exact hk2 false _ _ ⟨rfl, rfl, rfl, rfl, trivial⟩ ⟨rfl, trivial⟩ ⟨(decide_eq_false (by omega)).symm, H⟩
     | exact hk2 _ _ _ ⟨rfl, rfl, rfl, rfl, trivial⟩ ⟨rfl, trivial⟩ ⟨by congr 1; rw [eq_iff_iff]; omega, H⟩
    ·
     first | have h3p := of_decide_eq_false h3 | skip
     refine JL.go ⟨_, rfl, h3⟩ (RX.movev (v := .int _ _) rfl) (JL.go ⟨_, rfl, h3⟩ (RX.gt rfl rfl) (JL.g (RX.pick_f rfl h3) (JL.mb rfl (JL.splitS 37 rfl (fun h4 => ?_) (fun h4 => ?_)))))
     ·
      first | have h4p := of_decide_eq_true h4 | skip
      refine JL.no ⟨_, rfl, gno h4⟩ (JL.no ⟨_, rfl, gno h4⟩ (JL.no ⟨_, rfl, gno h4⟩ (JL.no ⟨_, rfl, nofun⟩ (JL.no ⟨_, rfl, nofun⟩ (JL.no ⟨_, rfl, gno h4⟩ (JL.g (RX.pick_t rfl h4) (JL.nil ?_)))))))
      first
      | exact hk2 true _ _ ⟨rfl, rfl, rfl, rfl, trivial⟩ ⟨rfl, trivial⟩ ⟨(decide_eq_true (by omega)).symm, H⟩
      | exact hk2 false _ _ ⟨rfl, rfl, rfl, rfl, trivial⟩ ⟨rfl, trivial⟩ ⟨(decide_eq_false (by omega)).symm, H⟩
      | exact hk2 _ _ _ ⟨rfl, rfl, rfl, rfl, trivial⟩ ⟨rfl, trivial⟩ ⟨by congr 1; rw [eq_iff_iff]; omega, H⟩
     ·
      first | have h4p := of_decide_eq_false h4 | skip
      refine JL.go ⟨_, rfl, h4⟩ (RX.movev (v := .int _ _) rfl) (JL.go ⟨_, rfl, h4⟩ (RX.eq rfl rfl) (JL.go ⟨_, rfl, h4⟩ (RX.movev (v := .bool _) rfl) (JL.splitS 40 rfl (fun h5 => ?_) (fun h5 => ?_))))
      ·
       first | have h5p := of_decide_eq_true h5 | skip
       refine JL.go ⟨_, rfl, h5⟩ (RX.movev (v := .int _ _) rfl) (JL.go ⟨_, rfl, h5⟩ (RX.eq rfl rfl) (JL.go ⟨_, rfl, h4⟩ (RX.pick_t rfl h5) (JL.g (RX.pick_f rfl h4) (JL.nil ?_))))
       first
       | exact hk2 true _ _ ⟨rfl, rfl, rfl, rfl, trivial⟩ ⟨rfl, trivial⟩ ⟨(decide_eq_true (by omega)).symm, H⟩
       | exact hk2 false _ _ ⟨rfl, rfl, rfl, rfl, trivial⟩ ⟨rfl, trivial⟩ ⟨(decide_eq_false (by omega)).symm, H⟩
       | exact hk2 _ _ _ ⟨rfl, rfl, rfl, rfl, trivial⟩ ⟨rfl, trivial⟩ ⟨by congr 1; rw [eq_iff_iff]; omega, H⟩
      ·
       first | have h5p := of_decide_eq_false h5 | skip
       refine JL.no ⟨_, rfl, gno h5⟩ (JL.no ⟨_, rfl, gno h5⟩ (JL.go ⟨_, rfl, h4⟩ (RX.pick_f rfl h5) (JL.g (RX.pick_f rfl h4) (JL.nil ?_))))
       first
       | exact hk2 true _ _ ⟨rfl, rfl, rfl, rfl, trivial⟩ ⟨rfl, trivial⟩ ⟨(decide_eq_true (by omega)).symm, H⟩
       | exact hk2 false _ _ ⟨rfl, rfl, rfl, rfl, trivial⟩ ⟨rfl, trivial⟩ ⟨(decide_eq_false (by omega)).symm, H⟩
       | exact hk2 _ _ _ ⟨rfl, rfl, rfl, rfl, trivial⟩ ⟨rfl, trivial⟩ ⟨by congr 1; rw [eq_iff_iff]; omega, H⟩
   ·
    clear H
    rintro q ρ w ⟨hq, H⟩
    refine J.cond rfl (fun hbr => ?_) (fun hbr => ?_)
    ·
     have hst := of_decide_eq_true (hq.symm.trans hbr)
     refine J.exit rfl (J.seq (J.seq ?_))
     obtain ⟨rr, hfin, HH⟩ : ∃ rr, digs 6 0 r = (n, rr) ∧ Hp w0 w (PB bp s rr :: F) := by
       first
       | exact ⟨_, hdg.trans (digs_stop hst (by omega)), H⟩
       | exact ⟨_, by rw [hdg, show 6 - k = 0 by omega]; rfl, H⟩
       | exact ⟨[], by rw [hdg, end_of hr1 (Nat.le_antisymm posn_le (by omega))]; exact digs_out (by omega), by rw [← end_of hr1 (Nat.le_antisymm posn_le (by omega))]; exact H⟩
     replace H := HH
     refine J.region (JL.mi rfl (JL.g (RX.eq rfl rfl) (JL.nil (J.cond_d rfl (fun hz => ?_) (fun hz => ?_)))))
     ·
      have hz0 : n = 0 := by omega
      subst hz0
      refine J.regionP (JLP.go trivial (RX.movev (v := .pointer _) rfl) (JLP.go trivial (RX.nilCheck rfl) (JLP.go trivial (RX.fieldAddr rfl fo158_1 rfl) (JLP.go trivial (RX.load H rfl (i := 0) (v := .int .i64 (posn s (rr) : Nat)) rfl rfl one3) (JLP.go trivial (RX.makeInterface (v := .int _ _) rfl cn159) (JLP.doesP Tryz.func133 trivial (EX.panic rfl) (by rintro _ _ ⟨rfl, rfl⟩; exact .inr ⟨_, rfl, rr, by unfold numP; rw [hfin]; rfl, rfl, _, H⟩) (fun _ _ h => h.elim)))))))
     ·
      refine J.skip (J.seq (J.region (JL.mi rfl (JL.ai rfl (JL.nil (J.ret1 (v := .int _ _) Tryz.func133 rfl rfl ?_))))))
      exact .inl ⟨_, rfl, n, rr, by unfold numP; rw [hfin]; exact if_neg (by simp only; omega), rfl, by omega, H⟩
    ·
     have hgo := Decidable.not_not.1 (of_decide_eq_false (hq.symm.trans hbr))
     rw [digs_go hgo (by omega)] at hdg
     have hpw2 := pow_step hn (show c.toNat - 48 ≤ 9 by omega)
     refine J.skip (J.seq (J.region (JL.mi rfl (JL.g (RX.mul rfl rfl (w_i64 (r := ((10 * n : Nat) : Int)) (by omega) (by omega) (by omega))) (JL.mi rfl (JL.g (RX.sub rfl rfl (w_u8 (r := ((c.toNat - 48 : Nat) : Int)) (by omega) (by omega) (by omega))) (JL.g (RX.conv rfl (by rw [ki5]; rfl) ki3 (w_i64 (r := ((c.toNat - 48 : Nat) : Int)) rfl (by omega) (by omega))) ?_)))))))
     refine JL.g (RX.add rfl rfl (w_i64 (r := ((10 * n + (c.toNat - 48) : Nat) : Int)) (by omega) (by omega) (by omega))) (JL.ai rfl (JL.nil (J.region (JL.mp rfl (JL.g (RX.nilCheck rfl) (JL.g (RX.fieldAddr rfl fo158_1 rfl) (JL.g (RX.load H rfl (i := 0) (v := .int .i64 (posn s (c :: r2) : Nat)) rfl rfl one3) (JL.g (RX.add rfl rfl (w_i64 (r := ((posn s (r2) : Nat) : Int)) (by omega) (by omega) (by omega))) (JL.g (RX.nilCheck rfl) (JL.g (RX.fieldAddr rfl fo158_1 rfl) (JL.e (EX.store (v := .int _ _) H rfl rfl (i := 0) (l' := [.string ⟨s.toArray⟩, .int .i64 (posn s (r2) : Nat)]) rfl rfl (by simp) sz3 rfl rfl) ?_)))))))))))
     rintro _ w H
     refine JL.nil ?_
     replace H : Hp w0 w (PB bp s r2 :: F) := H
     refine J.inBlock (J.region (JL.mi rfl (JL.g (RX.add rfl rfl (w_i64 (r := ((k + 1 : Nat) : Int)) (by omega) (by omega) (by omega))) (JL.ai rfl (JL.nil ?_)))))
     exact IH (k + 1, 10 * n + (c.toNat - 48), r2) _ _ (by simp only; omega) ⟨rfl, trivial⟩ ⟨rfl, rfl, trivial⟩ ⟨by simp only; omega, hpw2, suf_tail hr1, hdg, H⟩
  ·
   refine J.exit rfl (J.seq (J.seq ?_))
   obtain ⟨rr, hfin, HH⟩ : ∃ rr, digs 6 0 r = (n, rr) ∧ Hp w0 w (PB bp s rr :: F) := by
     first
     | exact ⟨_, hdg.trans (digs_stop hst (by omega)), H⟩
     | exact ⟨_, by rw [hdg, show 6 - k = 0 by omega]; rfl, H⟩
     | exact ⟨[], by rw [hdg, end_of hr1 (Nat.le_antisymm posn_le (by omega))]; exact digs_out (by omega), by rw [← end_of hr1 (Nat.le_antisymm posn_le (by omega))]; exact H⟩
   replace H := HH
   refine J.region (JL.mi rfl (JL.g (RX.eq rfl rfl) (JL.nil (J.cond_d rfl (fun hz => ?_) (fun hz => ?_)))))
   ·
    have hz0 : n = 0 := by omega
    subst hz0
    refine J.regionP (JLP.go trivial (RX.movev (v := .pointer _) rfl) (JLP.go trivial (RX.nilCheck rfl) (JLP.go trivial (RX.fieldAddr rfl fo158_1 rfl) (JLP.go trivial (RX.load H rfl (i := 0) (v := .int .i64 (posn s (rr) : Nat)) rfl rfl one3) (JLP.go trivial (RX.makeInterface (v := .int _ _) rfl cn159) (JLP.doesP Tryz.func133 trivial (EX.panic rfl) (by rintro _ _ ⟨rfl, rfl⟩; exact .inr ⟨_, rfl, rr, by unfold numP; rw [hfin]; rfl, rfl, _, H⟩) (fun _ _ h => h.elim)))))))
   ·
    refine J.skip (J.seq (J.region (JL.mi rfl (JL.ai rfl (JL.nil (J.ret1 (v := .int _ _) Tryz.func133 rfl rfl ?_))))))
    exact .inl ⟨_, rfl, n, rr, by unfold numP; rw [hfin]; exact if_neg (by simp only; omega), rfl, by omega, H⟩
 ·
  first | have hk6p := of_decide_eq_false hk6 | skip
  refine JQ.no ⟨_, rfl, gno hk6⟩ (JQ.no ⟨_, rfl, gno hk6⟩ (JQ.no ⟨_, rfl, gno hk6⟩ (JQ.no ⟨_, rfl, gno hk6⟩ (JQ.no ⟨_, rfl, gno hk6⟩ (JQ.no ⟨_, rfl, gno hk6⟩ (JQ.no ⟨_, rfl, gno hk6⟩ (JQ.no ⟨_, rfl, gno hk6⟩ (JQ.no ⟨_, rfl, gno hk6⟩ (JQ.no ⟨_, rfl, gno hk6⟩ (JQ.g (fun w H => RX.pick_f rfl hk6) (JQ.nil fun w H => (J.cond_f rfl rfl (J.exit rfl (J.seq (J.seq ?_)))))))))))))))
  obtain ⟨rr, hfin, HH⟩ : ∃ rr, digs 6 0 r = (n, rr) ∧ Hp w0 w (PB bp s rr :: F) := by
    first
    | exact ⟨_, hdg.trans (digs_stop hst (by omega)), H⟩
    | exact ⟨_, by rw [hdg, show 6 - k = 0 by omega]; rfl, H⟩
    | exact ⟨[], by rw [hdg, end_of hr1 (Nat.le_antisymm posn_le (by omega))]; exact digs_out (by omega), by rw [← end_of hr1 (Nat.le_antisymm posn_le (by omega))]; exact H⟩
  replace H := HH
  refine J.region (JL.mi rfl (JL.g (RX.eq rfl rfl) (JL.nil (J.cond_d rfl (fun hz => ?_) (fun hz => ?_)))))
  ·
   have hz0 : n = 0 := by omega
   subst hz0
   refine J.regionP (JLP.go trivial (RX.movev (v := .pointer _) rfl) (JLP.go trivial (RX.nilCheck rfl) (JLP.go trivial (RX.fieldAddr rfl fo158_1 rfl) (JLP.go trivial (RX.load H rfl (i := 0) (v := .int .i64 (posn s (rr) : Nat)) rfl rfl one3) (JLP.go trivial (RX.makeInterface (v := .int _ _) rfl cn159) (JLP.doesP Tryz.func133 trivial (EX.panic rfl) (by rintro _ _ ⟨rfl, rfl⟩; exact .inr ⟨_, rfl, rr, by unfold numP; rw [hfin]; rfl, rfl, _, H⟩) (fun _ _ h => h.elim)))))))
  ·
   refine J.skip (J.seq (J.region (JL.mi rfl (JL.ai rfl (JL.nil (J.ret1 (v := .int _ _) Tryz.func133 rfl rfl ?_))))))
   exact .inl ⟨_, rfl, n, rr, by unfold numP; rw [hfin]; exact if_neg (by simp only; omega), rfl, by omega, H⟩
set_option maxHeartbeats 800000 in
theorem order_step {m : Nat} (ih : OrdC m) {w0 w : World} {F : List Seg} {s r : List UInt8} {bp : Nat} (hr : r <:+ s) (hs : s.length ≤ 1099511627776) (H : Hp w0 w (PB bp s r :: F)) (hm : r.length < m + 1) : RetP Tryz.prog 102 [.pointer (some ⟨bp, 0, none⟩)] w (fun v w' => ∃ t r' vs sg, pO (m + 1) r = (some t, r') ∧ v = .agg vs.toArray ∧ t.Own vs sg ∧ Hp w0 w' (sg :: PB bp s r' :: F)) (fun v w' => ∃ r', pO (m + 1) r = (none, r') ∧ v = lostV (posn s r') ∧ ∃ z, Hp w0 w' (PZ bp s z :: F)) := by
 refine Calls.of_J (n := 53) Tryz.func102 rfl rfl rfl (J.seq (J.region (JL.e (EX.alloc H zr39 rfl) ?_)))
 rintro _ w ⟨b2, rfl, H⟩
 refine JL.nil ?_
 replace H := H.pull 1 rfl
 refine J.seq (J.seq (J.regionP (JLP.go trivial (RX.movev (v := .pointer _) rfl) (JLP.doesP Tryz.func102 trivial (EX.callP rfl cl132 rfl ((next_b hr hs H))) (by rintro _ _ ⟨rfl, rfl, H⟩; exact .inr ⟨_, rfl, [], rfl, rfl, _, (H.pull 1 rfl).drop⟩) ?_))))
 rintro _ w ⟨c, r2, rfl, rfl, H⟩
 have hr2 := suf_tail hr
 have hps := posn_succ hr
 simp only [List.length_cons] at hm
 refine JLP.nil (J.block (J.seq (J.region (JL.g (RX.eq rfl rfl) (JL.ab rfl (JL.nil (J.cond_d rfl (fun h100 => ?_) (fun h100 => ?_))))))))
 ·
  have e100 : c.toNat = 100 := by omega
  have hpo : pO (m + 1) (c :: r2) = bindP (numP r2) fun n r => (some (.node 1 (n : Nat) []), r) := by rw [pO, if_pos e100]
  refine J.seq (J.regionP (JLP.go trivial (RX.movev (v := .pointer _) rfl) (JLP.doesP Tryz.func102 trivial (EX.callP rfl cl133 rfl ((number_b hr2 hs H))) (by rintro _ _ ⟨r3, hn, rfl, z, H⟩; exact .inr ⟨_, rfl, r3, by rw [hpo, hn]; rfl, rfl, z, (H.pull 1 rfl).drop⟩) ?_)))
  rintro _ w ⟨n, r3, hn, rfl, hn6, H⟩
  refine JLP.go trivial (RX.build (pv := [(0, .int .i64 1), (1, .int .i64 (n : Nat))]) (res := tv 1 (n : Nat) none 0 0) rfl (by kernel_rfl)) (JLP.does trivial (EX.storeAgg H rfl rfl (i := 1) (vs := tv 1 (n : Nat) none 0 0) (l' := tv 1 (n : Nat) none 0 0) rfl tv_cell (by simp) sz39 rfl rfl) ?_)
  rintro _ w H
  refine JLP.nil ?_
  first
  | refine J.retc Tryz.func102 rfl H rfl (i := 1) (vs := tv 1 (n : Nat) none 0 0) rfl rfl ag39 ?_
  | refine J.retc Tryz.func102 rfl H rfl (i := 1) (vs := tv 2 (n : Nat) none 0 0) rfl rfl ag39 ?_
  | refine J.retc Tryz.func102 rfl H rfl (i := 4) (vs := tv 4 (n : Nat) (some ⟨bb, 0, none⟩) 1 1) rfl rfl ag39 ?_
  | refine J.retc Tryz.func102 rfl H rfl (i := 6) (vs := tv 3 0 (some ⟨bb, 0, none⟩) 2 2) rfl rfl ag39 ?_
  exact .inl ⟨_, rfl, .node 1 n [], r3, _, [], by rw [hpo, hn]; rfl, rfl, Tr.Own.leaf, ((H.pull 1 rfl).drop).nil⟩
 ·
  have e100 : ¬ c.toNat = 100 := by omega
  refine J.seq (J.region (JL.g (RX.eq rfl rfl) (JL.ab rfl (JL.nil (J.cond_d rfl (fun h102 => ?_) (fun h102 => ?_))))))
  ·
   have e102 : c.toNat = 102 := by omega
   have hpo : pO (m + 1) (c :: r2) = bindP (numP r2) fun n r => (some (.node 2 (n : Nat) []), r) := by rw [pO, if_neg e100, if_pos e102]
   refine J.seq (J.regionP (JLP.go trivial (RX.movev (v := .pointer _) rfl) (JLP.doesP Tryz.func102 trivial (EX.callP rfl cl133 rfl ((number_b hr2 hs H))) (by rintro _ _ ⟨r3, hn, rfl, z, H⟩; exact .inr ⟨_, rfl, r3, by rw [hpo, hn]; rfl, rfl, z, (H.pull 1 rfl).drop⟩) ?_)))
   rintro _ w ⟨n, r3, hn, rfl, hn6, H⟩
   refine JLP.go trivial (RX.build (pv := [(0, .int .i64 2), (1, .int .i64 (n : Nat))]) (res := tv 2 (n : Nat) none 0 0) rfl (by kernel_rfl)) (JLP.does trivial (EX.storeAgg H rfl rfl (i := 1) (vs := tv 2 (n : Nat) none 0 0) (l' := tv 2 (n : Nat) none 0 0) rfl tv_cell (by simp) sz39 rfl rfl) ?_)
   rintro _ w H
   refine JLP.nil ?_
   first
   | refine J.retc Tryz.func102 rfl H rfl (i := 1) (vs := tv 1 (n : Nat) none 0 0) rfl rfl ag39 ?_
   | refine J.retc Tryz.func102 rfl H rfl (i := 1) (vs := tv 2 (n : Nat) none 0 0) rfl rfl ag39 ?_
   | refine J.retc Tryz.func102 rfl H rfl (i := 4) (vs := tv 4 (n : Nat) (some ⟨bb, 0, none⟩) 1 1) rfl rfl ag39 ?_
   | refine J.retc Tryz.func102 rfl H rfl (i := 6) (vs := tv 3 0 (some ⟨bb, 0, none⟩) 2 2) rfl rfl ag39 ?_
   exact .inl ⟨_, rfl, .node 2 n [], r3, _, [], by rw [hpo, hn]; rfl, rfl, Tr.Own.leaf, ((H.pull 1 rfl).drop).nil⟩
  ·
   have e102 : ¬ c.toNat = 102 := by omega
   refine J.seq (J.region (JL.g (RX.eq rfl rfl) (JL.ab rfl (JL.nil (J.cond_d rfl (fun h98 => ?_) (fun h98 => ?_))))))
   ·
    have e98 : c.toNat = 98 := by omega
    have hpo : pO (m + 1) (c :: r2) = bindP (numP r2) fun n r => bindP (takeP [40] r) fun _ r => bindP (pO m r) fun t r => bindP (takeP [41] r) fun _ r => (some (.node 4 (n : Nat) [t]), r) := by rw [pO, if_neg e100, if_neg e102, if_pos e98]
    refine J.seq (J.regionP (JLP.go trivial (RX.movev (v := .pointer _) rfl) (JLP.doesP Tryz.func102 trivial (EX.callP rfl cl133 rfl ((number_b hr2 hs H))) (by rintro _ _ ⟨r3, hn, rfl, z, H⟩; exact .inr ⟨_, rfl, r3, by rw [hpo, hn]; rfl, rfl, z, (H.pull 1 rfl).drop⟩) ?_)))
    rintro _ w ⟨n, r3, hn, rfl, hn6, H⟩
    have hr3 : r3 <:+ s := by have := num_suf r2; rw [hn] at this; exact this.trans hr2
    have hl3 := (num_suf r2).length_le
    rw [hn] at hl3
    rw [hn] at hpo
    refine JLP.go trivial (RX.assignv (v := .int _ _) rfl) (JLP.nil (J.seq (J.regionP (JLP.go trivial (RX.movev (v := .pointer _) rfl) (JLP.doesP Tryz.func102 trivial (EX.callP rfl cl134 rfl ((take_b hr3 hs H (t := [40]) (by decide)))) (by rintro _ _ ⟨r4, h4, rfl, z, H⟩; exact .inr ⟨_, rfl, r4, by rw [hpo]; simp only [bindP]; rw [h4], rfl, z, (H.pull 1 rfl).drop⟩) ?_)))))
    rintro _ w ⟨rfl, r4, h4, H⟩
    have hr4 : r4 <:+ s := by have := take_suf [40] r3; rw [h4] at this; exact this.trans hr3
    have hl4 := (take_suf [40] r3).length_le
    rw [h4] at hl4
    simp only [bindP] at hpo
    rw [h4] at hpo
    simp only [bindP] at hpo
    refine JLP.nil (J.seq (J.regionP (JLP.go trivial (RX.movev (v := .pointer _) rfl) (JLP.doesP Tryz.func102 trivial (EX.callP rfl cl102 rfl ((ih _ _ _ _ _ bp hr4 hs (by simp only at hl3 hl4; omega) H))) (by rintro _ _ ⟨r5, h5, rfl, z, H⟩; exact .inr ⟨_, rfl, r5, by rw [hpo, h5], rfl, z, (H.pull 1 rfl).drop⟩) ?_))))
    rintro _ w ⟨t, r5, vt, st, h5, rfl, ho5, H⟩
    obtain ⟨k5, n5, p5, m5, c5, rfl⟩ := ho5.shape
    have hr5 : r5 <:+ s := by have := pO_suf m r4; rw [h5] at this; exact this.trans hr4
    rw [h5] at hpo
    simp only [bindP] at hpo
    refine JLP.does trivial (EX.alloc H zr39 rfl) ?_
    rintro _ w ⟨b4, rfl, H⟩
    refine JLP.does trivial (EX.storeAgg H rfl rfl (i := 0) (vs := tv k5 n5 p5 m5 c5) (l' := tv k5 n5 p5 m5 c5) rfl tv_cell (by simp) sz39 rfl rfl) ?_
    rintro _ w H
    refine JLP.nil (J.seq ?_)
    replace H := H.pull 2 rfl
    refine J.regionP (JLP.go trivial (RX.movev (v := .pointer _) rfl) (JLP.doesP Tryz.func102 trivial (EX.callP rfl cl134 rfl ((take_b hr5 hs H (t := [41]) (by decide)))) (by rintro _ _ ⟨r6, h6, rfl, z, H⟩; exact .inr ⟨_, rfl, r6, by rw [hpo, h6], rfl, z, ((((H.pull 1 rfl).drop.pull 1 rfl).drop.pull 1 rfl).drop)⟩) ?_))
    rintro _ w ⟨rfl, r6, h6, H⟩
    rw [h6] at hpo
    simp only [bindP] at hpo
    refine JLP.nil (J.seq (J.region (JL.mi rfl (JL.g (RX.loadAgg H rfl (i := 1) (vs := tv k5 n5 p5 m5 c5) rfl rfl ag39) (JL.e (EX.buildSlice (pv := [(0, .agg (tv k5 n5 p5 m5 c5).toArray)]) (l := tv k5 n5 p5 m5 c5) (e := 39) H rfl (by kernel_rfl)) ?_)))))
    rintro _ w ⟨bb, rfl, H⟩
    refine JL.g (RX.build (pv := [(0, .int .i64 4), (1, .int .i64 (n : Nat)), (2, .slice (some ⟨bb, 0, none⟩) 1 1)]) (res := tv 4 (n : Nat) (some ⟨bb, 0, none⟩) 1 1) rfl (by kernel_rfl)) (JL.e (EX.storeAgg H rfl rfl (i := 4) (vs := tv 4 (n : Nat) (some ⟨bb, 0, none⟩) 1 1) (l' := tv 4 (n : Nat) (some ⟨bb, 0, none⟩) 1 1) rfl tv_cell (by simp) sz39 rfl rfl) ?_)
    rintro _ w H
    refine JL.nil ?_
    first
    | refine J.retc Tryz.func102 rfl H rfl (i := 1) (vs := tv 1 (n : Nat) none 0 0) rfl rfl ag39 ?_
    | refine J.retc Tryz.func102 rfl H rfl (i := 1) (vs := tv 2 (n : Nat) none 0 0) rfl rfl ag39 ?_
    | refine J.retc Tryz.func102 rfl H rfl (i := 4) (vs := tv 4 (n : Nat) (some ⟨bb, 0, none⟩) 1 1) rfl rfl ag39 ?_
    | refine J.retc Tryz.func102 rfl H rfl (i := 6) (vs := tv 3 0 (some ⟨bb, 0, none⟩) 2 2) rfl rfl ag39 ?_
    exact .inl ⟨_, rfl, .node 4 n [t], r6, _, [(bb, cel (tv k5 n5 p5 m5 c5) 39)] ++ st, hpo, rfl, Tr.Own.mk (OwnSl.all rfl) (KidsOwn.one ho5), ((((((H.pull 2 rfl).drop.pull 3 rfl).drop.pull 2 rfl).pull 1 rfl).join))⟩
   ·
    have e98 : ¬ c.toNat = 98 := by omega
    refine J.seq (J.region (JL.g (RX.eq rfl rfl) (JL.ab rfl (JL.nil (J.cond_d rfl (fun h40 => ?_) (fun h40 => ?_))))))
    ·
     have e40 : c.toNat = 40 := by omega
     have hpo : pO (m + 1) (c :: r2) = bindP (pO m r2) fun a r => bindP (takeP [32, 120, 32] r) fun _ r => bindP (pO m r) fun b r => bindP (takeP [41] r) fun _ r => (some (.node 3 0 [a, b]), r) := by rw [pO, if_neg e100, if_neg e102, if_neg e98, if_pos e40]
     refine J.seq (J.regionP (JLP.go trivial (RX.movev (v := .pointer _) rfl) (JLP.doesP Tryz.func102 trivial (EX.callP rfl cl102 rfl ((ih _ _ _ _ _ bp hr2 hs (by omega) H))) (by rintro _ _ ⟨r3, h3, rfl, z, H⟩; exact .inr ⟨_, rfl, r3, by rw [hpo, h3]; rfl, rfl, z, (H.pull 1 rfl).drop⟩) ?_)))
     rintro _ w ⟨ta, r3, va, sa, h3, rfl, hoa, H⟩
     obtain ⟨ka, na, pa, ma, ca, rfl⟩ := hoa.shape
     have hr3 : r3 <:+ s := by have := pO_suf m r2; rw [h3] at this; exact this.trans hr2
     have hl3 := (pO_suf m r2).length_le
     rw [h3] at hl3
     rw [h3] at hpo
     simp only [bindP] at hpo
     refine JLP.does trivial (EX.alloc H zr39 rfl) ?_
     rintro _ w ⟨b5, rfl, H⟩
     refine JLP.does trivial (EX.storeAgg H rfl rfl (i := 0) (vs := tv ka na pa ma ca) (l' := tv ka na pa ma ca) rfl tv_cell (by simp) sz39 rfl rfl) ?_
     rintro _ w H
     refine JLP.nil (J.seq ?_)
     replace H := H.pull 2 rfl
     refine J.regionP (JLP.go trivial (RX.movev (v := .pointer _) rfl) (JLP.doesP Tryz.func102 trivial (EX.callP rfl cl134 rfl ((take_b hr3 hs H (t := [32, 120, 32]) (by decide)))) (by rintro _ _ ⟨r4, h4, rfl, z, H⟩; exact .inr ⟨_, rfl, r4, by rw [hpo, h4], rfl, z, ((((H.pull 1 rfl).drop.pull 1 rfl).drop.pull 1 rfl).drop)⟩) ?_))
     rintro _ w ⟨rfl, r4, h4, H⟩
     have hr4 : r4 <:+ s := by have := take_suf [32, 120, 32] r3; rw [h4] at this; exact this.trans hr3
     have hl4 := (take_suf [32, 120, 32] r3).length_le
     rw [h4] at hl4
     rw [h4] at hpo
     simp only [bindP] at hpo
     refine JLP.nil (J.seq (J.regionP (JLP.go trivial (RX.movev (v := .pointer _) rfl) (JLP.doesP Tryz.func102 trivial (EX.callP rfl cl102 rfl ((ih _ _ _ _ _ bp hr4 hs (by simp only at hl3 hl4; omega) H))) (by rintro _ _ ⟨r5, h5, rfl, z, H⟩; exact .inr ⟨_, rfl, r5, by rw [hpo, h5], rfl, z, ((((H.pull 1 rfl).drop.pull 1 rfl).drop.pull 1 rfl).drop)⟩) ?_))))
     rintro _ w ⟨tb, r5, vb, sb, h5, rfl, hob, H⟩
     obtain ⟨kb, nb, pb, mb, cb, rfl⟩ := hob.shape
     have hr5 : r5 <:+ s := by have := pO_suf m r4; rw [h5] at this; exact this.trans hr4
     rw [h5] at hpo
     simp only [bindP] at hpo
     refine JLP.does trivial (EX.alloc H zr39 rfl) ?_
     rintro _ w ⟨b6, rfl, H⟩
     refine JLP.does trivial (EX.storeAgg H rfl rfl (i := 0) (vs := tv kb nb pb mb cb) (l' := tv kb nb pb mb cb) rfl tv_cell (by simp) sz39 rfl rfl) ?_
     rintro _ w H
     refine JLP.nil (J.seq ?_)
     replace H := H.pull 2 rfl
     refine J.regionP (JLP.go trivial (RX.movev (v := .pointer _) rfl) (JLP.doesP Tryz.func102 trivial (EX.callP rfl cl134 rfl ((take_b hr5 hs H (t := [41]) (by decide)))) (by rintro _ _ ⟨r6, h6, rfl, z, H⟩; exact .inr ⟨_, rfl, r6, by rw [hpo, h6], rfl, z, ((((((H.pull 1 rfl).drop.pull 1 rfl).drop.pull 1 rfl).drop.pull 1 rfl).drop.pull 1 rfl).drop)⟩) ?_))
     rintro _ w ⟨rfl, r6, h6, H⟩
     rw [h6] at hpo
     simp only [bindP] at hpo
     refine JLP.nil (J.seq (J.region (JL.g (RX.loadAgg H rfl (i := 3) (vs := tv ka na pa ma ca) rfl rfl ag39) (JL.g (RX.loadAgg H rfl (i := 1) (vs := tv kb nb pb mb cb) rfl rfl ag39) (JL.e (EX.buildSlice (pv := [(0, .agg (tv ka na pa ma ca).toArray), (1, .agg (tv kb nb pb mb cb).toArray)]) (l := tv ka na pa ma ca ++ tv kb nb pb mb cb) (e := 39) H rfl (by kernel_rfl)) ?_)))))
     rintro _ w ⟨bb, rfl, H⟩
     refine JL.g (RX.build (pv := [(0, .int .i64 3), (2, .slice (some ⟨bb, 0, none⟩) 2 2)]) (res := tv 3 0 (some ⟨bb, 0, none⟩) 2 2) rfl (by kernel_rfl)) (JL.e (EX.storeAgg H rfl rfl (i := 6) (vs := tv 3 0 (some ⟨bb, 0, none⟩) 2 2) (l' := tv 3 0 (some ⟨bb, 0, none⟩) 2 2) rfl tv_cell (by simp) sz39 rfl rfl) ?_)
     rintro _ w H
     refine JL.nil ?_
     first
     | refine J.retc Tryz.func102 rfl H rfl (i := 1) (vs := tv 1 (n : Nat) none 0 0) rfl rfl ag39 ?_
     | refine J.retc Tryz.func102 rfl H rfl (i := 1) (vs := tv 2 (n : Nat) none 0 0) rfl rfl ag39 ?_
     | refine J.retc Tryz.func102 rfl H rfl (i := 4) (vs := tv 4 (n : Nat) (some ⟨bb, 0, none⟩) 1 1) rfl rfl ag39 ?_
     | refine J.retc Tryz.func102 rfl H rfl (i := 6) (vs := tv 3 0 (some ⟨bb, 0, none⟩) 2 2) rfl rfl ag39 ?_
     exact .inl ⟨_, rfl, .node 3 0 [ta, tb], r6, _, [(bb, cel (tv ka na pa ma ca ++ tv kb nb pb mb cb) 39)] ++ (sa ++ sb), hpo, rfl, Tr.Own.mk (OwnSl.all rfl) (KidsOwn.two hoa hob), by
       have H1 := (((H.pull 2 rfl).drop.pull 3 rfl).drop.pull 4 rfl).drop
       exact (((((H1.pull 2 rfl).pull 3 rfl).join.pull 1 rfl).join))⟩
    ·
     have e40 : ¬ c.toNat = 40 := by omega
     refine J.skip (J.inBlock (J.regionP (JLP.go trivial (RX.movev (v := .pointer _) rfl) (JLP.go trivial (RX.nilCheck rfl) (JLP.go trivial (RX.fieldAddr rfl fo158_1 rfl) (JLP.go trivial (RX.load H rfl (i := 0) (v := .int .i64 (posn s (r2) : Nat)) rfl rfl one3) (JLP.go trivial (RX.sub rfl rfl (w_i64 (r := ((posn s (c :: r2) : Nat) : Int)) (by omega) (by omega) (by omega))) (JLP.go trivial (RX.makeInterface (v := .int _ _) rfl cn159) (JLP.doesP Tryz.func102 trivial (EX.panic rfl) (by rintro _ _ ⟨rfl, rfl⟩; exact .inr ⟨_, rfl, c :: r2, by rw [pO, if_neg e100, if_neg e102, if_neg e98, if_neg e40], rfl, _, (H.pull 1 rfl).drop⟩) (fun _ _ h => h.elim))))))))))
theorem order_b : ∀ m, OrdC m
  | 0 => fun _ _ _ _ _ _ _ _ h _ => absurd h (Nat.not_lt_zero _)
  | m + 1 => fun _ _ _ _ _ _ hr hs hm H => order_step (order_b m) hr hs H hm
end Oo
end Go.Proofs.YtfaokllgaambjaaGreatDoor
namespace Go.Proofs.YtfaokllgaambjaaGreatDoor
open Go Go.Eng
set_option maxRecDepth 100000
set_option maxHeartbeats 1600000
theorem cl101 : callable Tryz.prog 101 = true := by kernel_rfl
theorem ud159 : Tryz.prog.underlying 159 = some (.int .i64) := by kernel_rfl
theorem zr159 : (Tryz.prog.info? 159).bind (·.zero) = some (.int .i64 0) := by kernel_rfl
theorem zr3 : (Tryz.prog.info? 3).bind (·.zero) = some (.int .i64 0) := by kernel_rfl
theorem zr4 : (Tryz.prog.info? 4).bind (·.zero) = some (.bool false) := by kernel_rfl
namespace Oo
section
variable {P : Program} {f : FuncId} {n : Nat} {R : Ending → World → Prop} {k : List Item} {σ : Env} {w w0 : World} {L : List Seg} {ops : Array Oper} {o : Oper} {rest : List Oper} {Q : Exit → Act → World → Prop}
def WL (P : Program) (n : Nat) (ops : Array Oper) (Q : Exit → Act → World → Prop) (l : List Oper) (σ : Env) (w : World) : Prop := ∀ a, Ag [] n σ a → wpList P ops Q l a w
theorem WL.nil (h : ∀ a, Ag [] n σ a → Q .normal a w) : WL P n ops Q [] σ w := fun a ha => wpList_nil (h a ha)
theorem WL.does {Φ : Value → World → Prop} (hg : o.guard = none) (hd : Does P (Eng.ev n σ) o w Φ) (h : ∀ v w', Φ v w' → WL P n ops Q rest (updO σ o.dst v) w') : WL P n ops Q (o :: rest) σ w := by
 intro a ha
 have w1 : ∀ y, Region.wanted o y = true := fun y => by simp [Region.wanted, hg]
 simp only [wpList, w1, if_true]
 exact .inl (wp_of_does (by rw [ha.eval]; exact hd) fun v w' hΦ => h v w' hΦ _ (ha.put _ _))
theorem WL.go {v : Value} (hg : o.guard = none) (hr : Runs P (Eng.ev n σ) o w v) (h : WL P n ops Q rest (updO σ o.dst v) w) : WL P n ops Q (o :: rest) σ w :=
  WL.does (Φ := fun u w' => u = v ∧ w' = w) hg (Does.of_run hr ⟨rfl, rfl⟩) fun _ _ ⟨hu, hw⟩ => by rw [hu, hw]; exact h
def WR (P : Program) (n : Nat) (ops : Array Oper) (Q : Exit → Act → List Frame → World → Prop) (l : List Nat) (σ : Env) (cs : List Frame) (w : World) : Prop := ∀ a, Ag [] n σ a → wpOpsS P ops Q l a cs w
theorem WR.nil {Q : Exit → Act → List Frame → World → Prop} {cs : List Frame} (h : ∀ a, Ag [] n σ a → Q .normal a cs w) : WR P n ops Q [] σ cs w := fun a ha => h a ha
theorem WR.go {Q : Exit → Act → List Frame → World → Prop} {cs : List Frame} {l : List Nat} {i : Nat} {v : Value} (hi : ops[i]? = some o) (hg : o.guard = none) (hr : Runs P (Eng.ev n σ) o w v) (h : WR P n ops Q l (updO σ o.dst v) cs w) : WR P n ops Q (i :: l) σ cs w := by
 intro a ha
 have w1 : ∀ y, Region.wanted o y = true := fun y => by simp [Region.wanted, hg]
 simp only [wpOpsS, hi, w1, if_true]
 rw [ha.eval]
 unfold Runs at hr
 rw [hr]
 exact h _ (ha.put _ _)
theorem WR.recover {Q : Exit → Act → List Frame → World → Prop} {cs : List Frame} {l : List Nat} {i : Nat} {v : Value} {cs' : List Frame} (hi : ops[i]? = some o) (hg : o.guard = none) (hr : (execOp (Eng.ev n σ) o).run P w = .ok .recover w)
 (hc : recoverD cs = some (v, cs')) (h : WR P n ops Q l (updO σ o.dst v) cs' w) : WR P n ops Q (i :: l) σ cs w := by
 intro a ha
 have w1 : ∀ y, Region.wanted o y = true := fun y => by simp [Region.wanted, hg]
 simp only [wpOpsS, hi, w1, if_true]
 rw [ha.eval, hr]
 simp only [hc]
 exact h _ (ha.put _ _)
theorem WR.idle {Q : Exit → Act → List Frame → World → Prop} {cs : List Frame} {l : List Nat} {i : Nat} (hi : ops[i]? = some o) (hg : o.guard = none) (hr : (execOp (Eng.ev n σ) o).run P w = .ok .recover w)
 (hc : recoverD cs = none) (h : WR P n ops Q l (updO σ o.dst .nilIface) cs w) : WR P n ops Q (i :: l) σ cs w := by
 intro a ha
 have w1 : ∀ y, Region.wanted o y = true := fun y => by simp [Region.wanted, hg]
 simp only [wpOpsS, hi, w1, if_true]
 rw [ha.eval, hr]
 simp only [hc]
 exact h _ (ha.put _ _)
end
section
variable {P : Program} {ρ : Operand → Value} {w w0 : World} {L : List Seg} {d : Option Tmp} {ty : TypeId} {pos : String} {af : Array Edge} {g : Option (Nat × Bool)} {x y : Operand}
theorem run_recover : (execOp ρ ⟨d, .call { callee := .builtin .recover, args := #[], argTypes := #[] }, ty, pos, af, g⟩).run P w = .ok .recover w := by
 simp [execOp, resolve, invoke, builtin]
theorem RX.assertYes {xt t : TypeId} {u : TypeDesc} {v : Value} (hx : ρ x = .iface t v) (ht : P.underlying t = some u) (hn : ∀ ms, u ≠ .interface ms) : Runs P ρ ⟨d, .typeAssert x xt t true, ty, pos, af, g⟩ w (.tuple #[v, .bool true]) := by
 have h : (Instr.typeAssert (.iface t v) xt t true).run P w = .ok (.tuple #[v, .bool true]) w := by
   unfold Instr.typeAssert
   cases u <;> first | (exact absurd rfl (hn _)) | simp [run_underlying ht]
 unfold Runs
 simp [execOp, hx, h]
theorem RX.assertNil {xt t : TypeId} {u : TypeDesc} {z : Value} (hx : ρ x = .nilIface) (ht : P.underlying t = some u) (hn : ∀ ms, u ≠ .interface ms) (hz : (P.info? t).bind (·.zero) = some z) : Runs P ρ ⟨d, .typeAssert x xt t true, ty, pos, af, g⟩ w (.tuple #[z, .bool false]) := by
 have hzv : (zeroValue t).run P w = .ok z w := by
   have h1 : (program : Sem Program).run P w = .ok P w := rfl
   obtain ⟨i, hi, hz'⟩ := Option.bind_eq_some_iff.1 hz
   simp [zeroValue, typeInfo, h1, hi, hz']
 have h : (Instr.typeAssert .nilIface xt t true).run P w = .ok (.tuple #[z, .bool false]) w := by
   unfold Instr.typeAssert
   cases u <;> first | (exact absurd rfl (hn _)) | simp [run_underlying ht, hzv]
 unfold Runs
 simp [execOp, hx, h]
end
theorem ag_enter {n : Nat} {l : List Value} (hl : l.length ≤ n) : Ag [] n (envOf l) { tmps := l.toArray ++ Array.replicate (n - l.toArray.size) undef, defers := [] } := by
 refine ⟨by simp; omega, fun t ht => ?_, rfl⟩
 rw [envOf_get, Array.getD_eq_getD_getElem?, Array.getElem?_append]
 simp only [List.size_toArray, List.getElem?_toArray]
 split
 · rfl
 · rename_i hge
   rw [Array.getElem?_replicate, List.getElem?_eq_none (by omega)]
   split <;> rfl
theorem run_loadOne {P : Program} {w0 w : World} {L : List Seg} {t T b i : Nat} {v : Value} (H : Hp w0 w L) (hi : L[i]? = some [(b, cel [v] T)]) (ht : oneOf P t = true) : (loadVar t ⟨b, 0, none⟩).run P w = .ok v w := by
 have := RX.load (P := P) (ρ := fun _ => .pointer (some ⟨b, 0, none⟩)) (d := none) (ty := 0) (pos := "") (af := #[]) (g := none) (x := .tmp 0) H rfl hi (o := 0) rfl ht
 unfold Runs at this
 simp only [execOp, Instr.loadAt, Instr.sureAddr, Sem.run_bind, Sem.run_pure, Result.andThen_ok] at this
 generalize (loadVar t ⟨b, 0, none⟩).run P w = r at this
 cases r with
 | halt h w2 => cases this
 | ok v w2 => simp at this; rw [this.1, this.2]
def b3V (b2 b3 b4 : Nat) : List Value := [.pointer (some ⟨b2, 0, none⟩), .pointer (some ⟨b3, 0, none⟩), .pointer (some ⟨b4, 0, none⟩)]
theorem catch_idle {w : World} {b2 b3 b4 : Nat} : CallsD Tryz.prog 101 (b3V b2 b3 b4).toArray .returning w fun e u' w' => e = .returned (.tuple #[]) ∧ u' = .returning ∧ w' = w := by
 refine callsD_of_wpS Tryz.func101 rfl fun c₀ cs hu => ?_
 apply wpS_seq
 apply wpS_region
 have hag : Ag [] 13 (envOf (b3V b2 b3 b4)) { tmps := (b3V b2 b3 b4).toArray ++ Array.replicate (13 - (b3V b2 b3 b4).toArray.size) undef, defers := [] } := ag_enter (by simp [b3V])
 refine (?_ : WR Tryz.prog 13 _ _ [0, 1, 2, 3, 4, 5, 6] _ _ _) _ hag
 refine WR.idle rfl rfl run_recover (by simp [recoverD, hu]) (WR.go rfl rfl (RX.assertNil rfl ud159 (by simp) zr159) (WR.go rfl rfl (RX.movev (v := .tuple _) rfl) (WR.go rfl rfl (RX.extract (v := .int _ _) rfl rfl) (WR.go rfl rfl (RX.extract (v := .bool _) rfl rfl) (WR.go rfl rfl (RX.assignv (v := .int _ _) rfl) (WR.go rfl rfl (RX.assignv (v := .bool _) rfl) (WR.nil fun a ha => (wpS_seq (wpS_of_wp (wp_region_lit ((?_ : WL Tryz.prog 13 _ _ _ _ _) a ha)))))))))))
 refine WL.go rfl (RX.movev (v := .bool _) rfl) (WL.nil fun a ha => (wpS_cond (t := false) (by rw [ha.eval]; rfl) ?_))
 refine wpS_of_wp (wp_skip ?_)
 exact ⟨ha.defers, .returning, by cases c₀; simp_all, _, results0 rfl _, rfl, rfl, rfl⟩
theorem catch_pan {w0 w : World} {F : List Seg} {b2 b3 b4 z : Nat} {l3 l4 : Value} {t2 : List Value} (H : Hp w0 w ([(b4, cel [l4] 4)] :: [(b3, cel [l3] 3)] :: [(b2, cel t2 39)] :: F)) (h2 : t2.length = 3) :
 CallsD Tryz.prog 101 (b3V b2 b3 b4).toArray (.panicking [{ v := lostV z, recovered := false }]) w fun e u' w' => e = .returned (.tuple #[]) ∧ u' = .panicking [{ v := lostV z, recovered := true }] ∧
   Hp w0 w' ([(b4, cel [.bool false] 4)] :: [(b3, cel [.int .i64 (z : Nat)] 3)] :: [(b2, cel (tv 0 0 none 0 0) 39)] :: F) := by
 refine callsD_of_wpS Tryz.func101 rfl fun c₀ cs hu => ?_
 apply wpS_seq
 apply wpS_region
 have hag : Ag [] 13 (envOf (b3V b2 b3 b4)) { tmps := (b3V b2 b3 b4).toArray ++ Array.replicate (13 - (b3V b2 b3 b4).toArray.size) undef, defers := [] } := ag_enter (by simp [b3V])
 refine (?_ : WR Tryz.prog 13 _ _ [0, 1, 2, 3, 4, 5, 6] _ _ _) _ hag
 refine WR.recover (v := lostV z) (cs' := { c₀ with mode := .panicking [{ v := lostV z, recovered := true }] } :: cs) rfl rfl run_recover (by simp [recoverD, hu]) (WR.go rfl rfl (RX.assertYes (v := .int .i64 (z : Nat)) rfl ud159 (by simp)) (WR.go rfl rfl (RX.movev (v := .tuple _) rfl) (WR.go rfl rfl (RX.extract (v := .int _ _) rfl rfl) (WR.go rfl rfl (RX.extract (v := .bool _) rfl rfl) (WR.go rfl rfl (RX.assignv (v := .int _ _) rfl) (WR.go rfl rfl (RX.assignv (v := .bool _) rfl) (WR.nil fun a ha => (wpS_seq (wpS_of_wp (wp_region_lit ((?_ : WL Tryz.prog 13 _ _ _ _ _) a ha)))))))))))
 refine WL.go rfl (RX.movev (v := .bool _) rfl) (WL.nil fun a ha => (wpS_cond (t := true) (by rw [ha.eval]; rfl) ?_))
 refine wpS_of_wp (wp_region_lit ((?_ : WL Tryz.prog 13 _ _ _ _ _) a ha))
 refine WL.go rfl (RX.build (pv := []) (res := tv 0 0 none 0 0) rfl (by kernel_rfl)) (WL.go rfl (RX.movev (v := .int _ _) rfl) (WL.does rfl (EX.storeAgg H rfl rfl (i := 2) (vs := tv 0 0 none 0 0) (l' := tv 0 0 none 0 0) rfl tv_cell (by simp [h2]) sz39 (setN_full h2) rfl) ?_))
 rintro _ w H
 refine WL.does rfl (EX.store (v := .int _ _) H rfl rfl (i := 1) (l' := [.int .i64 (z : Nat)]) rfl rfl (by simp) sz3 rfl rfl) ?_
 rintro _ w H
 refine WL.does rfl (EX.store (v := .bool _) H rfl rfl (i := 0) (l' := [.bool false]) rfl rfl (by simp) sz4 rfl rfl) ?_
 rintro _ w H
 refine WL.nil fun a ha => ?_
 exact ⟨ha.defers, _, rfl, _, results0 rfl _, rfl, rfl, H⟩
theorem leaves_nil {P : Program} {w : World} {fn : Func} {tmps : Array Value} {R : Ending → World → Prop} (h : ∃ v, (results fn tmps).run P w = .ok v w ∧ R (.returned v) w) : Leaves P fn tmps R [] .returning w := h
theorem results_ccc {P : Program} {w0 w : World} {L : List Seg} {n : Nat} {D : List Deferred} {σ : Env} {fn : Func} {a t u s tu ts b2 b3 b4 i j k T2 T3 T4 : Nat} {l : List Value} {x y : Value} {ac : Act} (ha : Ag D n σ ac) (h : fn.results = #[.cell a t, .cell u tu, .cell s ts])
 (hp2 : Eng.ev n σ (.tmp a) = .pointer (some ⟨b2, 0, none⟩)) (hp3 : Eng.ev n σ (.tmp u) = .pointer (some ⟨b3, 0, none⟩)) (hp4 : Eng.ev n σ (.tmp s) = .pointer (some ⟨b4, 0, none⟩)) (H : Hp w0 w L)
 (hi : L[i]? = some [(b2, cel l T2)]) (hj : L[j]? = some [(b3, cel [x] T3)]) (hk : L[k]? = some [(b4, cel [y] T4)]) (hl : l.length = 3) (ht : aggOf P t = some 3) (hu : oneOf P tu = true) (hs : oneOf P ts = true) : (results fn ac.tmps).run P w = .ok (.tuple #[.agg l.toArray, x, y]) w := by
 have h1 := ha.tmp a
 have h2 := ha.tmp u
 have h3 := ha.tmp s
 rw [hp2, Array.getD_eq_getD_getElem?] at h1
 rw [hp3, Array.getD_eq_getD_getElem?] at h2
 rw [hp4, Array.getD_eq_getD_getElem?] at h3
 have hv : readN l 0 3 = some l := by unfold readN; simp [hl, List.take_of_length_le (Nat.le_of_eq hl)]
 have e1 := run_loadAgg (P := P) H hi hv ht
 have e2 := run_loadOne (P := P) H hj hu
 have e3 := run_loadOne (P := P) H hk hs
 simp [results, h, h1, h2, h3, asAddr, e1, e2, e3]
def ReadO (s : List UInt8) (v : Value) (sg : Seg) : Prop :=
  (∃ t r vs, pO (s.length + 1) s = (some t, r) ∧ v = .tuple #[.agg vs.toArray, .int .i64 (posn s r : Nat), .bool (decide (((posn s r : Nat) : Int) = (s.length : Int)))] ∧ t.Own vs sg) ∨
  ∃ r, pO (s.length + 1) s = (none, r) ∧ v = .tuple #[.agg (tv 0 0 none 0 0).toArray, .int .i64 (posn s r : Nat), .bool false] ∧ sg = []
theorem inv_read {w : World} {c : Array Value} : (invoke (.fn (.func 101) c) #[]).run Tryz.prog w = .ok (.enter 101 c) w := by simp [invoke, callFunc_run cl101]
theorem read_b {w0 w : World} {F : List Seg} (H : Hp w0 w F) {s : List UInt8} (hs : s.length ≤ 1099511627776) : Ret Tryz.prog 62 [.string ⟨s.toArray⟩] w fun v w' => ∃ sg, ReadO s v sg ∧ Hp w0 w' (sg :: F) := by
 refine Calls.of_J (n := 24) Tryz.func62 rfl rfl rfl (J.seq (J.region (JL.e (EX.alloc H zr39 rfl) ?_)))
 rintro _ w ⟨b2, rfl, H⟩
 refine JL.e (EX.alloc H zr3 rfl) ?_
 rintro _ w ⟨b3, rfl, H⟩
 refine JL.e (EX.alloc H zr4 rfl) ?_
 rintro _ w ⟨b4, rfl, H⟩
 refine JL.nil (J.seq (J.region (JL.g (RX.movev (v := .string _) rfl) (JL.g (RX.build (pv := [(0, .string ⟨s.toArray⟩)]) (res := [.string ⟨s.toArray⟩, .int .i64 0]) rfl (by kernel_rfl)) (JL.e (EX.box (v := .agg _) H rfl rfl) ?_)))))
 rintro _ w ⟨bp, rfl, H⟩
 refine JL.ap rfl (JL.nil ?_)
 replace H : Hp w0 w (PB bp s s :: [(b4, cel [.bool false] 4)] :: [(b3, cel [.int .i64 0] 3)] :: [(b2, cel (tv 0 0 none 0 0) 39)] :: F) := by unfold PB PZ; rw [posn_self]; exact H
 refine J.seq (J.defer (d := { target := .fn (.func 101) (b3V b2 b3 b4).toArray, args := #[] }) rfl (RX.makeFunc (fv := []) (cv := b3V b2 b3 b4) rfl rfl) rfl rfl (run_defer rfl) (J.seq (J.regionP (JLP.go trivial (RX.movev (v := .pointer _) rfl) (JLP.doesL Tryz.func62 trivial (EX.callP rfl cl102 rfl (order_b (s.length + 1) _ _ _ s s bp (List.suffix_refl s) hs (Nat.lt_succ_self _) H)) ?_ ?_)))))
 · rintro _ w ⟨r, hpo, rfl, z, H⟩ a ha
   refine leaves_cons (f := 101) (args := (b3V b2 b3 b4).toArray) (by simp) inv_read ((catch_pan H.drop rfl).mono ?_)
   rintro e u2 w2 ⟨rfl, rfl, H⟩
   exact leaves_nil ⟨_, results_ccc ha rfl rfl rfl rfl H (i := 2) (j := 1) (k := 0) rfl rfl rfl rfl ag39 one3 one4, _, rfl, [], .inr ⟨r, hpo, rfl, rfl⟩, H.drop.drop.drop.nil⟩
 rintro _ w ⟨t, r, vs, sg, hpo, rfl, ho, H⟩
 obtain ⟨k, n, p, m, c, rfl⟩ := ho.shape
 refine JLP.does trivial (EX.storeAgg H rfl rfl (i := 4) (vs := tv k n p m c) (l' := tv k n p m c) rfl tv_cell (by simp) sz39 rfl rfl) ?_
 rintro _ w H
 refine JLP.nil (J.seq ?_)
 replace H := ((H.pull 4 rfl).pull 4 rfl).pull 4 rfl
 refine J.held (fun w => Hp w0 w (sg :: PB bp s r :: F)) hmix fun w hs => ?_
 replace H := H.same hs; clear hs
 have hS : Hp w0 w (sg :: PB bp s r :: F) := H.drop.drop.drop
 refine JH.take 1 rfl (by kernel_rfl) (by kernel_rfl) (by kernel_rfl) rfl trivial (fun w H => RX.movev (v := .pointer _) rfl) hS (JH.take 2 rfl (by kernel_rfl) (by kernel_rfl) (by kernel_rfl) rfl trivial (fun w H => RX.nilCheck rfl) hS (JH.take 3 rfl (by kernel_rfl) (by kernel_rfl) (by kernel_rfl) rfl trivial (fun w H => RX.fieldAddr rfl fo158_1 rfl) hS (JH.take 4 rfl (by kernel_rfl) (by kernel_rfl) (by kernel_rfl) rfl trivial (fun w H => RX.load H rfl (i := 1) (v := .int .i64 (posn s r : Nat)) rfl rfl one3) hS (JH.take 5 rfl (by kernel_rfl) (by kernel_rfl) (by kernel_rfl) rfl trivial (fun w H => RX.movev (v := .pointer _) rfl) hS (JH.take 6 rfl (by kernel_rfl) (by kernel_rfl) (by kernel_rfl) rfl trivial (fun w H => RX.nilCheck rfl) hS (JH.take 7 rfl (by kernel_rfl) (by kernel_rfl) (by kernel_rfl) rfl trivial (fun w H => RX.fieldAddr rfl fo158_1 rfl) hS (JH.take 8 rfl (by kernel_rfl) (by kernel_rfl) (by kernel_rfl) rfl trivial (fun w H => RX.load H rfl (i := 1) (v := .int .i64 (posn s r : Nat)) rfl rfl one3) hS (JH.take 9 rfl (by kernel_rfl) (by kernel_rfl) (by kernel_rfl) rfl trivial (fun w H => RX.movev (v := .string _) rfl) hS (JH.take 10 rfl (by kernel_rfl) (by kernel_rfl) (by kernel_rfl) rfl trivial (fun w H => RX.len_string rfl ud9 (r := (s.length : Int)) (by rw [b_size])) hS ?_)))))))))
 refine JH.take 11 rfl (by kernel_rfl) (by kernel_rfl) (by kernel_rfl) rfl trivial (fun w H => RX.eq rfl rfl) hS (JH.all [0] (by kernel_rfl) (by decide) (JHO.go rfl rfl trivial (RX.loadAgg H rfl (i := 2) (vs := tv k n p m c) rfl rfl ag39) hS (JH.all [12] (by kernel_rfl) (by decide) (JHO.does rfl rfl trivial (EX.storeAgg H rfl rfl (i := 2) (vs := tv k n p m c) (l' := tv k n p m c) rfl tv_cell (by simp) sz39 rfl rfl) ?_))))
 rintro _ w H
 have hS : Hp w0 w (sg :: PB bp s r :: F) := H.drop.drop.drop
 refine ⟨hS, ?_⟩
 refine JH.all [13] (by kernel_rfl) (by decide) (JHO.does rfl rfl trivial (EX.store (v := .int _ _) H rfl rfl (i := 1) (l' := [.int .i64 (posn s r : Nat)]) rfl rfl (by simp) sz3 rfl rfl) ?_)
 rintro _ w H
 have hS : Hp w0 w (sg :: PB bp s r :: F) := H.drop.drop.drop
 refine ⟨hS, ?_⟩
 refine JH.all [14] (by kernel_rfl) (by decide) (JHO.does rfl rfl trivial (EX.store (v := .bool _) H rfl rfl (i := 0) (l' := [.bool (decide (((posn s r : Nat) : Int) = (s.length : Int)))]) rfl rfl (by simp) sz4 rfl rfl) ?_)
 rintro _ w H
 have hS : Hp w0 w (sg :: PB bp s r :: F) := H.drop.drop.drop
 refine ⟨hS, ?_⟩
 refine JH.done (by kernel_rfl) (J.ret_leaves Tryz.func62 fun a ha => (leaves_cons (f := 101) (args := (b3V b2 b3 b4).toArray) (by simp) inv_read (catch_idle.mono ?_)))
 rintro e u2 w2 ⟨rfl, rfl, rfl⟩
 exact leaves_nil ⟨_, results_ccc ha rfl rfl rfl rfl H (i := 2) (j := 1) (k := 0) rfl rfl rfl rfl ag39 one3 one4, _, rfl, sg, .inl ⟨t, r, _, hpo, rfl, ho⟩, (H.drop.drop.drop.pull 1 rfl).drop⟩
end Oo
end Go.Proofs.YtfaokllgaambjaaGreatDoor
