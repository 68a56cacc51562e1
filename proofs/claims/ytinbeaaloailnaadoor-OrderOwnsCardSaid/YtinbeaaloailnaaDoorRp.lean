/- The reference parser: numbers, words, beginnings. -/
import Derived.Test.YtinbeaaloailnaaDoorRl
namespace Go.Proofs.YtinbeaaloailnaaDoor
open Go Go.Eng
set_option maxRecDepth 100000
set_option linter.unusedVariables false
set_option linter.unusedSimpArgs false
theorem cl48 : callable Tryd.prog 48 = true := by kernel_rfl
theorem cl49 : callable Tryd.prog 49 = true := by kernel_rfl
theorem fo57_0 : fieldOff Tryd.prog 57 0 = some 0 := by kernel_rfl
theorem fo57_1 : fieldOff Tryd.prog 57 1 = some 1 := by kernel_rfl
theorem fo57_2 : fieldOff Tryd.prog 57 2 = some 2 := by kernel_rfl
theorem one55 : oneOf Tryd.prog 55 = true := by kernel_rfl
theorem sz55 : szOf Tryd.prog 55 = some 1 := by kernel_rfl

def PR (bp : Nat) (s r : List UInt8) (q : Value) : Seg := [(bp, cel [.string ⟨s.toArray⟩, .int .i64 (posn s r : Nat), q] 57)]
theorem elR : Elem Tryd.prog 55 82 3 40 := Elem.of (by kernel_rfl)
def BegR (bp : Nat) (s r : List UInt8) (st : List Tr) (w0 : World) (F : List Seg) (v : Value) (w' : World) : Prop :=
  ∃ (k n : Int) (b1 b2 : Bool) (p' : Option Addr) (c' : Nat) (xs' : List Value) (sl' ss' : Seg) (st' : List Tr) (rr : List UInt8), v = .tuple #[.agg (tv k n none 0 0).toArray, .bool b1, .bool b2] ∧ OwnSl 82 3 p' st'.length c' xs' sl' ∧ KidsOwn st' xs' ss' ∧ rr <:+ s ∧
    Hp w0 w' (PR bp s rr (.slice p' st'.length c') :: sl' :: ss' :: F) ∧
    ((b2 = false ∧ begS r = .fail rr) ∨ (b1 = true ∧ b2 = true ∧ begS r = .leaf (.node k n []) rr ∧ st' = st) ∨ (b1 = false ∧ b2 = true ∧ ∃ f, begS r = .more f rr ∧ st' = st ++ [f] ∧ f.kl ≤ 1))
theorem num_of {r r' : List UInt8} {n : Nat} (h : digs 6 0 r = (n, r')) : numP r = (if n = 0 then none else some n, r') := by
  unfold numP; rw [h]
  dsimp only
  split <;> rfl

theorem rnum_b {w0 w : World} {F : List Seg} {s r : List UInt8} {bp : Nat} {q : Value} (hr : r <:+ s) (hs : s.length ≤ 1099511627776) (H : Hp w0 w (PR bp s r q :: F)) : Ret Tryd.prog 48 [.pointer (some ⟨bp, 0, none⟩)] w fun v w' => ∃ n r', digs 6 0 r = (n, r') ∧ r' <:+ s ∧ v = .int .i64 (n : Nat) ∧ Hp w0 w' (PR bp s r' q :: F) := by
  refine Calls.of_J (n := 81) Tryd.func48 rfl rfl rfl ?_
  refine J.seq ?_
  refine J.region ?_
  refine JL.go trivial (RX.assign) ?_
  refine JL.nil ?_
  refine J.seq ?_
  refine J.region ?_
  refine JL.go trivial (RX.assign) ?_
  refine JL.nil ?_
  refine J.seq ?_
  refine J.seq ?_
  refine J.region ?_
  refine JL.go trivial (RX.assign) ?_
  refine JL.nil ?_
  refine J.block ?_
  refine J.loop (ι := Nat × Nat × List UInt8) (S := fun z => [(3, .int .i64 (z.2.1 : Nat)), (4, .int .i64 (z.1 : Nat))]) (Φ := fun z w => z.1 ≤ 6 ∧ z.2.1 + 1 ≤ 10 ^ z.1 ∧ z.2.2 <:+ s ∧ digs 6 0 r = digs (6 - z.1) z.2.1 z.2.2 ∧ Hp w0 w (PR bp s z.2.2 q :: F)) (μ := fun z => 6 - z.1) (C := [(0, _)]) (0, 0, r) ⟨rfl, trivial⟩ ⟨rfl, rfl, trivial⟩ ?_ ?_
  · exact ⟨by simp, by simp, hr, rfl, H⟩
  clear H
  rintro ⟨k, n, r1⟩ ρ w ⟨hk, hn, hr1, hdg, H⟩ IH
  simp only at hk hn hr1 hdg H
  have hpw := pow_small hk
  dsimp only
  refine J.seq ?_
  refine J.seq ?_
  refine J.quietH H hmix (by kernel_rfl) ?_
  refine JQ.go trivial (fun w H => RX.movev (v := Value.int _ _) rfl) ?_
  refine JQ.go trivial (fun w H => RX.lt rfl rfl) ?_
  refine JQ.go trivial (fun w H => RX.movev (v := Value.bool _) rfl) ?_
  refine JQ.splitS 7 rfl (fun hk6 => ?_) (fun hk6 => ?_)
  · skip
    first | have hk6p := of_decide_eq_true hk6 | skip
    refine JQ.go ⟨_, rfl, hk6⟩ (fun w H => RX.movev (v := Value.pointer _) rfl) ?_
    refine JQ.go ⟨_, rfl, hk6⟩ (fun w H => RX.nilCheck rfl) ?_
    refine JQ.go ⟨_, rfl, hk6⟩ (fun w H => RX.fieldAddr rfl fo57_1 rfl) ?_
    refine JQ.go ⟨_, rfl, hk6⟩ (fun w H => RX.load H rfl (i := 0) (v := .int .i64 (posn s (r1) : Nat)) rfl rfl one3) ?_
    refine JQ.go ⟨_, rfl, hk6⟩ (fun w H => RX.movev (v := Value.pointer _) rfl) ?_
    refine JQ.go ⟨_, rfl, hk6⟩ (fun w H => RX.nilCheck rfl) ?_
    refine JQ.go ⟨_, rfl, hk6⟩ (fun w H => RX.fieldAddr rfl fo57_0 rfl) ?_
    refine JQ.go ⟨_, rfl, hk6⟩ (fun w H => RX.load H rfl (i := 0) (v := .string ⟨s.toArray⟩) rfl rfl one9) ?_
    refine JQ.go ⟨_, rfl, hk6⟩ (fun w H => RX.len_string rfl ud9 (r := (s.length : Int)) (by rw [b_size])) ?_
    refine JQ.go ⟨_, rfl, hk6⟩ (fun w H => RX.lt rfl rfl) ?_
    refine JQ.go trivial (fun w H => RX.pick_t rfl hk6) ?_
    refine JQ.go trivial (fun w H => RX.movev (v := Value.bool _) rfl) ?_
    refine JQ.splitS 19 rfl (fun hin => ?_) (fun hin => ?_)
    · skip
      first | have hinp := of_decide_eq_true hin | skip
      obtain ⟨c, r2, rfl⟩ := not_end hr1 (by omega)
      have hps := posn_succ hr1
      refine JQ.go ⟨_, rfl, hin⟩ (fun w H => RX.movev (v := Value.pointer _) rfl) ?_
      refine JQ.go ⟨_, rfl, hin⟩ (fun w H => RX.nilCheck rfl) ?_
      refine JQ.go ⟨_, rfl, hin⟩ (fun w H => RX.fieldAddr rfl fo57_0 rfl) ?_
      refine JQ.go ⟨_, rfl, hin⟩ (fun w H => RX.load H rfl (i := 0) (v := .string ⟨s.toArray⟩) rfl rfl one9) ?_
      refine JQ.go ⟨_, rfl, hin⟩ (fun w H => RX.movev (v := Value.pointer _) rfl) ?_
      refine JQ.go ⟨_, rfl, hin⟩ (fun w H => RX.nilCheck rfl) ?_
      refine JQ.go ⟨_, rfl, hin⟩ (fun w H => RX.fieldAddr rfl fo57_1 rfl) ?_
      refine JQ.go ⟨_, rfl, hin⟩ (fun w H => RX.load H rfl (i := 0) (v := .int .i64 (posn s (c :: r2) : Nat)) rfl rfl one3) ?_
      refine JQ.go ⟨_, rfl, hin⟩ (fun w H => RX.indexStr rfl rfl ud9 (b := c) (by omega) (by simpa using posn_get hr1)) ?_
      refine JQ.go ⟨_, rfl, hin⟩ (fun w H => RX.ge rfl rfl) ?_
      refine JQ.go trivial (fun w H => RX.pick_t rfl hin) ?_
      refine JQ.go trivial (fun w H => RX.movev (v := Value.bool _) rfl) ?_
      refine JQ.splitS 31 rfl (fun h48 => ?_) (fun h48 => ?_)
      · skip
        first | have h48p := of_decide_eq_true h48 | skip
        refine JQ.go ⟨_, rfl, h48⟩ (fun w H => RX.movev (v := Value.pointer _) rfl) ?_
        refine JQ.go ⟨_, rfl, h48⟩ (fun w H => RX.nilCheck rfl) ?_
        refine JQ.go ⟨_, rfl, h48⟩ (fun w H => RX.fieldAddr rfl fo57_0 rfl) ?_
        refine JQ.go ⟨_, rfl, h48⟩ (fun w H => RX.load H rfl (i := 0) (v := .string ⟨s.toArray⟩) rfl rfl one9) ?_
        refine JQ.go ⟨_, rfl, h48⟩ (fun w H => RX.movev (v := Value.pointer _) rfl) ?_
        refine JQ.go ⟨_, rfl, h48⟩ (fun w H => RX.nilCheck rfl) ?_
        refine JQ.go ⟨_, rfl, h48⟩ (fun w H => RX.fieldAddr rfl fo57_1 rfl) ?_
        refine JQ.go ⟨_, rfl, h48⟩ (fun w H => RX.load H rfl (i := 0) (v := .int .i64 (posn s (c :: r2) : Nat)) rfl rfl one3) ?_
        refine JQ.go ⟨_, rfl, h48⟩ (fun w H => RX.indexStr rfl rfl ud9 (b := c) (by omega) (by simpa using posn_get hr1)) ?_
        refine JQ.go ⟨_, rfl, h48⟩ (fun w H => RX.le rfl rfl) ?_
        refine JQ.go trivial (fun w H => RX.pick_t rfl h48) ?_
        refine JQ.nil fun w H => ?_
        refine J.cond_d rfl (fun h57 => ?_) (fun h57 => ?_)
        · skip
          refine J.skip ?_
          refine J.seq ?_
          refine J.block ?_
          refine J.seq ?_
          refine J.seq ?_
          refine J.quietH H hmix (by kernel_rfl) ?_
          refine JQ.go trivial (fun w H => RX.movev (v := Value.int _ _) rfl) ?_
          refine JQ.go trivial (fun w H => RX.eq rfl rfl) ?_
          refine JQ.go trivial (fun w H => RX.movev (v := Value.bool _) rfl) ?_
          refine JQ.splitS 47 rfl (fun hk0 => ?_) (fun hk0 => ?_)
          · skip
            first | have hk0p := of_decide_eq_true hk0 | skip
            refine JQ.go ⟨_, rfl, hk0⟩ (fun w H => RX.movev (v := Value.pointer _) rfl) ?_
            refine JQ.go ⟨_, rfl, hk0⟩ (fun w H => RX.nilCheck rfl) ?_
            refine JQ.go ⟨_, rfl, hk0⟩ (fun w H => RX.fieldAddr rfl fo57_0 rfl) ?_
            refine JQ.go ⟨_, rfl, hk0⟩ (fun w H => RX.load H rfl (i := 0) (v := .string ⟨s.toArray⟩) rfl rfl one9) ?_
            refine JQ.go ⟨_, rfl, hk0⟩ (fun w H => RX.movev (v := Value.pointer _) rfl) ?_
            refine JQ.go ⟨_, rfl, hk0⟩ (fun w H => RX.nilCheck rfl) ?_
            refine JQ.go ⟨_, rfl, hk0⟩ (fun w H => RX.fieldAddr rfl fo57_1 rfl) ?_
            refine JQ.go ⟨_, rfl, hk0⟩ (fun w H => RX.load H rfl (i := 0) (v := .int .i64 (posn s (c :: r2) : Nat)) rfl rfl one3) ?_
            refine JQ.go ⟨_, rfl, hk0⟩ (fun w H => RX.indexStr rfl rfl ud9 (b := c) (by omega) (by simpa using posn_get hr1)) ?_
            refine JQ.go ⟨_, rfl, hk0⟩ (fun w H => RX.eq rfl rfl) ?_
            refine JQ.go trivial (fun w H => RX.pick_t rfl hk0) ?_
            refine JQ.nil fun w H => ?_
            refine J.cond_d rfl (fun hze => ?_) (fun hze => ?_)
            · skip
              refine J.seq ?_
              refine J.region ?_
              refine JL.go trivial (RX.assign) ?_
              refine JL.nil ?_
              refine J.ret1 (v := Value.int _ _) Tryd.func48 rfl rfl ?_
              have e0 : k = 0 := by omega
              rw [e0] at hn
              exact ⟨_, rfl, 0, c :: r2, by rw [hdg, digs_stop (by omega) (by omega), show n = 0 by omega], hr1, rfl, H⟩
            · skip
              refine J.skip ?_
              refine J.seq ?_
              refine J.quietH H hmix (by kernel_rfl) ?_
              refine JQ.go trivial (fun w H => RX.movev (v := Value.int _ _) rfl) ?_
              refine JQ.go trivial (fun w H => RX.mul rfl rfl (w_i64 (r := ((10 * n : Nat) : Int)) (by omega) (by omega) (by omega))) ?_
              refine JQ.go trivial (fun w H => RX.movev (v := Value.pointer _) rfl) ?_
              refine JQ.go trivial (fun w H => RX.nilCheck rfl) ?_
              refine JQ.go trivial (fun w H => RX.fieldAddr rfl fo57_0 rfl) ?_
              refine JQ.go trivial (fun w H => RX.load H rfl (i := 0) (v := .string ⟨s.toArray⟩) rfl rfl one9) ?_
              refine JQ.go trivial (fun w H => RX.movev (v := Value.pointer _) rfl) ?_
              refine JQ.go trivial (fun w H => RX.nilCheck rfl) ?_
              refine JQ.go trivial (fun w H => RX.fieldAddr rfl fo57_1 rfl) ?_
              refine JQ.go trivial (fun w H => RX.load H rfl (i := 0) (v := .int .i64 (posn s (c :: r2) : Nat)) rfl rfl one3) ?_
              refine JQ.go trivial (fun w H => RX.indexStr rfl rfl ud9 (b := c) (by omega) (by simpa using posn_get hr1)) ?_
              refine JQ.go trivial (fun w H => RX.sub rfl rfl (w_u8 (r := ((c.toNat - 48 : Nat) : Int)) (by omega) (by omega) (by omega))) ?_
              refine JQ.go trivial (fun w H => RX.conv rfl (by rw [ki5]; rfl) ki3 (w_i64 (r := ((c.toNat - 48 : Nat) : Int)) rfl (by omega) (by omega))) ?_
              refine JQ.go trivial (fun w H => RX.add rfl rfl (w_i64 (r := ((10 * n + (c.toNat - 48) : Nat) : Int)) (by omega) (by omega) (by omega))) ?_
              refine JQ.go trivial (fun w H => RX.assignv (v := Value.int _ _) rfl) ?_
              refine JQ.nil fun w H => ?_
              refine J.region ?_
              refine JL.go trivial (RX.movev (v := Value.pointer _) rfl) ?_
              refine JL.go trivial (RX.nilCheck rfl) ?_
              refine JL.go trivial (RX.fieldAddr rfl fo57_1 rfl) ?_
              refine JL.go trivial (RX.load H rfl (i := 0) (v := .int .i64 (posn s (c :: r2) : Nat)) rfl rfl one3) ?_
              refine JL.go trivial (RX.add rfl rfl (w_i64 (r := ((posn s (r2) : Nat) : Int)) (by omega) (by omega) (by omega))) ?_
              refine JL.go trivial (RX.nilCheck rfl) ?_
              refine JL.go trivial (RX.fieldAddr rfl fo57_1 rfl) ?_
              refine JL.does trivial (EX.store (v := Value.int _ _) H rfl rfl (i := 0) (l' := [.string ⟨s.toArray⟩, .int .i64 (posn s (r2) : Nat), q]) rfl rfl (by simp) sz3 rfl rfl) ?_
              rintro _ w H
              refine JL.nil ?_
              replace H : Hp w0 w (PR bp s r2 q :: F) := H
              rw [digs_go (by omega) (by omega)] at hdg
              have hpw2 := pow_step hn (show c.toNat - 48 ≤ 9 by omega)
              refine J.inBlock ?_
              refine J.region ?_
              refine JL.go trivial (RX.movev (v := Value.int _ _) rfl) ?_
              refine JL.go trivial (RX.add rfl rfl (w_i64 (r := ((k + 1 : Nat) : Int)) (by omega) (by omega) (by omega))) ?_
              refine JL.go trivial (RX.assignv (v := Value.int _ _) rfl) ?_
              refine JL.nil ?_
              exact IH (k + 1, 10 * n + (c.toNat - 48), r2) _ _ (by simp only; omega) ⟨rfl, trivial⟩ ⟨rfl, rfl, trivial⟩ ⟨by simp only; omega, hpw2, suf_tail hr1, hdg, H⟩
          · skip
            first | have hk0p := of_decide_eq_false hk0 | skip
            refine JQ.no ⟨_, rfl, gno hk0⟩ ?_
            refine JQ.no ⟨_, rfl, gno hk0⟩ ?_
            refine JQ.no ⟨_, rfl, gno hk0⟩ ?_
            refine JQ.no ⟨_, rfl, gno hk0⟩ ?_
            refine JQ.no ⟨_, rfl, gno hk0⟩ ?_
            refine JQ.no ⟨_, rfl, gno hk0⟩ ?_
            refine JQ.no ⟨_, rfl, gno hk0⟩ ?_
            refine JQ.no ⟨_, rfl, gno hk0⟩ ?_
            refine JQ.no ⟨_, rfl, gno hk0⟩ ?_
            refine JQ.no ⟨_, rfl, gno hk0⟩ ?_
            refine JQ.go trivial (fun w H => RX.pick_f rfl hk0) ?_
            refine JQ.nil fun w H => ?_
            refine J.cond_f rfl rfl ?_
            refine J.skip ?_
            refine J.seq ?_
            refine J.quietH H hmix (by kernel_rfl) ?_
            refine JQ.go trivial (fun w H => RX.movev (v := Value.int _ _) rfl) ?_
            refine JQ.go trivial (fun w H => RX.mul rfl rfl (w_i64 (r := ((10 * n : Nat) : Int)) (by omega) (by omega) (by omega))) ?_
            refine JQ.go trivial (fun w H => RX.movev (v := Value.pointer _) rfl) ?_
            refine JQ.go trivial (fun w H => RX.nilCheck rfl) ?_
            refine JQ.go trivial (fun w H => RX.fieldAddr rfl fo57_0 rfl) ?_
            refine JQ.go trivial (fun w H => RX.load H rfl (i := 0) (v := .string ⟨s.toArray⟩) rfl rfl one9) ?_
            refine JQ.go trivial (fun w H => RX.movev (v := Value.pointer _) rfl) ?_
            refine JQ.go trivial (fun w H => RX.nilCheck rfl) ?_
            refine JQ.go trivial (fun w H => RX.fieldAddr rfl fo57_1 rfl) ?_
            refine JQ.go trivial (fun w H => RX.load H rfl (i := 0) (v := .int .i64 (posn s (c :: r2) : Nat)) rfl rfl one3) ?_
            refine JQ.go trivial (fun w H => RX.indexStr rfl rfl ud9 (b := c) (by omega) (by simpa using posn_get hr1)) ?_
            refine JQ.go trivial (fun w H => RX.sub rfl rfl (w_u8 (r := ((c.toNat - 48 : Nat) : Int)) (by omega) (by omega) (by omega))) ?_
            refine JQ.go trivial (fun w H => RX.conv rfl (by rw [ki5]; rfl) ki3 (w_i64 (r := ((c.toNat - 48 : Nat) : Int)) rfl (by omega) (by omega))) ?_
            refine JQ.go trivial (fun w H => RX.add rfl rfl (w_i64 (r := ((10 * n + (c.toNat - 48) : Nat) : Int)) (by omega) (by omega) (by omega))) ?_
            refine JQ.go trivial (fun w H => RX.assignv (v := Value.int _ _) rfl) ?_
            refine JQ.nil fun w H => ?_
            refine J.region ?_
            refine JL.go trivial (RX.movev (v := Value.pointer _) rfl) ?_
            refine JL.go trivial (RX.nilCheck rfl) ?_
            refine JL.go trivial (RX.fieldAddr rfl fo57_1 rfl) ?_
            refine JL.go trivial (RX.load H rfl (i := 0) (v := .int .i64 (posn s (c :: r2) : Nat)) rfl rfl one3) ?_
            refine JL.go trivial (RX.add rfl rfl (w_i64 (r := ((posn s (r2) : Nat) : Int)) (by omega) (by omega) (by omega))) ?_
            refine JL.go trivial (RX.nilCheck rfl) ?_
            refine JL.go trivial (RX.fieldAddr rfl fo57_1 rfl) ?_
            refine JL.does trivial (EX.store (v := Value.int _ _) H rfl rfl (i := 0) (l' := [.string ⟨s.toArray⟩, .int .i64 (posn s (r2) : Nat), q]) rfl rfl (by simp) sz3 rfl rfl) ?_
            rintro _ w H
            refine JL.nil ?_
            replace H : Hp w0 w (PR bp s r2 q :: F) := H
            rw [digs_go (by omega) (by omega)] at hdg
            have hpw2 := pow_step hn (show c.toNat - 48 ≤ 9 by omega)
            refine J.inBlock ?_
            refine J.region ?_
            refine JL.go trivial (RX.movev (v := Value.int _ _) rfl) ?_
            refine JL.go trivial (RX.add rfl rfl (w_i64 (r := ((k + 1 : Nat) : Int)) (by omega) (by omega) (by omega))) ?_
            refine JL.go trivial (RX.assignv (v := Value.int _ _) rfl) ?_
            refine JL.nil ?_
            exact IH (k + 1, 10 * n + (c.toNat - 48), r2) _ _ (by simp only; omega) ⟨rfl, trivial⟩ ⟨rfl, rfl, trivial⟩ ⟨by simp only; omega, hpw2, suf_tail hr1, hdg, H⟩
        · skip
          refine J.exit rfl ?_
          refine J.seq ?_
          refine J.region ?_
          refine JL.go trivial (RX.movev (v := Value.int _ _) rfl) ?_
          refine JL.go trivial (RX.assignv (v := Value.int _ _) rfl) ?_
          refine JL.nil ?_
          refine J.ret1 (v := Value.int _ _) Tryd.func48 rfl rfl ?_
          first
          | exact ⟨_, rfl, n, _, hdg.trans (digs_stop (by omega) (by omega)), hr1, rfl, H⟩
          | exact ⟨_, rfl, n, _, by rw [hdg, show 6 - k = 0 by omega]; rfl, hr1, rfl, H⟩
          | exact ⟨_, rfl, n, [], by rw [hdg, end_of hr1 (Nat.le_antisymm posn_le (by omega))]; exact digs_out (by omega), List.nil_suffix, rfl, by rw [← end_of hr1 (Nat.le_antisymm posn_le (by omega))]; exact H⟩
      · skip
        first | have h48p := of_decide_eq_false h48 | skip
        refine JQ.no ⟨_, rfl, gno h48⟩ ?_
        refine JQ.no ⟨_, rfl, gno h48⟩ ?_
        refine JQ.no ⟨_, rfl, gno h48⟩ ?_
        refine JQ.no ⟨_, rfl, gno h48⟩ ?_
        refine JQ.no ⟨_, rfl, gno h48⟩ ?_
        refine JQ.no ⟨_, rfl, gno h48⟩ ?_
        refine JQ.no ⟨_, rfl, gno h48⟩ ?_
        refine JQ.no ⟨_, rfl, gno h48⟩ ?_
        refine JQ.no ⟨_, rfl, gno h48⟩ ?_
        refine JQ.no ⟨_, rfl, gno h48⟩ ?_
        refine JQ.go trivial (fun w H => RX.pick_f rfl h48) ?_
        refine JQ.nil fun w H => ?_
        refine J.cond_f rfl rfl ?_
        refine J.exit rfl ?_
        refine J.seq ?_
        refine J.region ?_
        refine JL.go trivial (RX.movev (v := Value.int _ _) rfl) ?_
        refine JL.go trivial (RX.assignv (v := Value.int _ _) rfl) ?_
        refine JL.nil ?_
        refine J.ret1 (v := Value.int _ _) Tryd.func48 rfl rfl ?_
        first
        | exact ⟨_, rfl, n, _, hdg.trans (digs_stop (by omega) (by omega)), hr1, rfl, H⟩
        | exact ⟨_, rfl, n, _, by rw [hdg, show 6 - k = 0 by omega]; rfl, hr1, rfl, H⟩
        | exact ⟨_, rfl, n, [], by rw [hdg, end_of hr1 (Nat.le_antisymm posn_le (by omega))]; exact digs_out (by omega), List.nil_suffix, rfl, by rw [← end_of hr1 (Nat.le_antisymm posn_le (by omega))]; exact H⟩
    · skip
      first | have hinp := of_decide_eq_false hin | skip
      refine JQ.no ⟨_, rfl, gno hin⟩ ?_
      refine JQ.no ⟨_, rfl, gno hin⟩ ?_
      refine JQ.no ⟨_, rfl, gno hin⟩ ?_
      refine JQ.no ⟨_, rfl, gno hin⟩ ?_
      refine JQ.no ⟨_, rfl, gno hin⟩ ?_
      refine JQ.no ⟨_, rfl, gno hin⟩ ?_
      refine JQ.no ⟨_, rfl, gno hin⟩ ?_
      refine JQ.no ⟨_, rfl, gno hin⟩ ?_
      refine JQ.no ⟨_, rfl, gno hin⟩ ?_
      refine JQ.no ⟨_, rfl, gno hin⟩ ?_
      refine JQ.go trivial (fun w H => RX.pick_f rfl hin) ?_
      refine JQ.go trivial (fun w H => RX.movev (v := Value.bool _) rfl) ?_
      refine JQ.no ⟨_, rfl, gno rfl⟩ ?_
      refine JQ.no ⟨_, rfl, gno rfl⟩ ?_
      refine JQ.no ⟨_, rfl, gno rfl⟩ ?_
      refine JQ.no ⟨_, rfl, gno rfl⟩ ?_
      refine JQ.no ⟨_, rfl, gno rfl⟩ ?_
      refine JQ.no ⟨_, rfl, gno rfl⟩ ?_
      refine JQ.no ⟨_, rfl, gno rfl⟩ ?_
      refine JQ.no ⟨_, rfl, gno rfl⟩ ?_
      refine JQ.no ⟨_, rfl, gno rfl⟩ ?_
      refine JQ.no ⟨_, rfl, gno rfl⟩ ?_
      refine JQ.go trivial (fun w H => RX.pick_f rfl rfl) ?_
      refine JQ.nil fun w H => ?_
      refine J.cond_f rfl rfl ?_
      refine J.exit rfl ?_
      refine J.seq ?_
      refine J.region ?_
      refine JL.go trivial (RX.movev (v := Value.int _ _) rfl) ?_
      refine JL.go trivial (RX.assignv (v := Value.int _ _) rfl) ?_
      refine JL.nil ?_
      refine J.ret1 (v := Value.int _ _) Tryd.func48 rfl rfl ?_
      first
      | exact ⟨_, rfl, n, _, hdg.trans (digs_stop (by omega) (by omega)), hr1, rfl, H⟩
      | exact ⟨_, rfl, n, _, by rw [hdg, show 6 - k = 0 by omega]; rfl, hr1, rfl, H⟩
      | exact ⟨_, rfl, n, [], by rw [hdg, end_of hr1 (Nat.le_antisymm posn_le (by omega))]; exact digs_out (by omega), List.nil_suffix, rfl, by rw [← end_of hr1 (Nat.le_antisymm posn_le (by omega))]; exact H⟩
  · skip
    first | have hk6p := of_decide_eq_false hk6 | skip
    refine JQ.no ⟨_, rfl, gno hk6⟩ ?_
    refine JQ.no ⟨_, rfl, gno hk6⟩ ?_
    refine JQ.no ⟨_, rfl, gno hk6⟩ ?_
    refine JQ.no ⟨_, rfl, gno hk6⟩ ?_
    refine JQ.no ⟨_, rfl, gno hk6⟩ ?_
    refine JQ.no ⟨_, rfl, gno hk6⟩ ?_
    refine JQ.no ⟨_, rfl, gno hk6⟩ ?_
    refine JQ.no ⟨_, rfl, gno hk6⟩ ?_
    refine JQ.no ⟨_, rfl, gno hk6⟩ ?_
    refine JQ.no ⟨_, rfl, gno hk6⟩ ?_
    refine JQ.go trivial (fun w H => RX.pick_f rfl hk6) ?_
    refine JQ.go trivial (fun w H => RX.movev (v := Value.bool _) rfl) ?_
    refine JQ.no ⟨_, rfl, gno rfl⟩ ?_
    refine JQ.no ⟨_, rfl, gno rfl⟩ ?_
    refine JQ.no ⟨_, rfl, gno rfl⟩ ?_
    refine JQ.no ⟨_, rfl, gno rfl⟩ ?_
    refine JQ.no ⟨_, rfl, gno rfl⟩ ?_
    refine JQ.no ⟨_, rfl, gno rfl⟩ ?_
    refine JQ.no ⟨_, rfl, gno rfl⟩ ?_
    refine JQ.no ⟨_, rfl, gno rfl⟩ ?_
    refine JQ.no ⟨_, rfl, gno rfl⟩ ?_
    refine JQ.no ⟨_, rfl, gno rfl⟩ ?_
    refine JQ.go trivial (fun w H => RX.pick_f rfl rfl) ?_
    refine JQ.go trivial (fun w H => RX.movev (v := Value.bool _) rfl) ?_
    refine JQ.no ⟨_, rfl, gno rfl⟩ ?_
    refine JQ.no ⟨_, rfl, gno rfl⟩ ?_
    refine JQ.no ⟨_, rfl, gno rfl⟩ ?_
    refine JQ.no ⟨_, rfl, gno rfl⟩ ?_
    refine JQ.no ⟨_, rfl, gno rfl⟩ ?_
    refine JQ.no ⟨_, rfl, gno rfl⟩ ?_
    refine JQ.no ⟨_, rfl, gno rfl⟩ ?_
    refine JQ.no ⟨_, rfl, gno rfl⟩ ?_
    refine JQ.no ⟨_, rfl, gno rfl⟩ ?_
    refine JQ.no ⟨_, rfl, gno rfl⟩ ?_
    refine JQ.go trivial (fun w H => RX.pick_f rfl rfl) ?_
    refine JQ.nil fun w H => ?_
    refine J.cond_f rfl rfl ?_
    refine J.exit rfl ?_
    refine J.seq ?_
    refine J.region ?_
    refine JL.go trivial (RX.movev (v := Value.int _ _) rfl) ?_
    refine JL.go trivial (RX.assignv (v := Value.int _ _) rfl) ?_
    refine JL.nil ?_
    refine J.ret1 (v := Value.int _ _) Tryd.func48 rfl rfl ?_
    first
    | exact ⟨_, rfl, n, _, hdg.trans (digs_stop (by omega) (by omega)), hr1, rfl, H⟩
    | exact ⟨_, rfl, n, _, by rw [hdg, show 6 - k = 0 by omega]; rfl, hr1, rfl, H⟩
    | exact ⟨_, rfl, n, [], by rw [hdg, end_of hr1 (Nat.le_antisymm posn_le (by omega))]; exact digs_out (by omega), List.nil_suffix, rfl, by rw [← end_of hr1 (Nat.le_antisymm posn_le (by omega))]; exact H⟩
theorem ris_b {w0 w : World} {F : List Seg} {s r : List UInt8} {bp : Nat} {q : Value} (hr : r <:+ s) (hs : s.length ≤ 1099511627776) (H : Hp w0 w (PR bp s r q :: F)) {t : List UInt8} (ht : t.length ≤ 1000) : Ret Tryd.prog 49 [.pointer (some ⟨bp, 0, none⟩), .string ⟨t.toArray⟩] w fun v w' => ∃ (b : Bool) (r' : List UInt8), takeP t r = (if b then some () else none, r') ∧ r' <:+ s ∧ v = .bool b ∧ Hp w0 w' (PR bp s r' q :: F) := by
  refine Calls.of_J (n := 44) Tryd.func49 rfl rfl rfl ?_
  refine J.seq ?_
  refine J.region ?_
  refine JL.go trivial (RX.assign) ?_
  refine JL.nil ?_
  refine J.seq ?_
  refine J.seq ?_
  refine J.region ?_
  refine JL.go trivial (RX.assign) ?_
  refine JL.nil ?_
  refine J.block ?_
  refine J.loop (ι := Nat × List UInt8) (S := fun z => [(5, .int .i64 (z.1 : Nat))]) (Φ := fun z w => z.1 ≤ t.length ∧ z.2 <:+ s ∧ takeP t r = takeP (t.drop z.1) z.2 ∧ Hp w0 w (PR bp s z.2 q :: F)) (μ := fun z => t.length - z.1) (C := [(0, _), (1, _)]) (0, r) ⟨rfl, rfl, trivial⟩ ⟨rfl, trivial⟩ ?_ ?_
  · exact ⟨by simp, hr, rfl, H⟩
  clear H
  rintro ⟨i, r1⟩ ρ w ⟨hi, hr1, htk, H⟩ IH
  simp only at hi hr1 htk H
  dsimp only
  refine J.seq ?_
  refine J.seq ?_
  refine J.region ?_
  refine JL.go trivial (RX.movev (v := Value.int _ _) rfl) ?_
  refine JL.go trivial (RX.movev (v := Value.string _) rfl) ?_
  refine JL.go trivial (RX.len_string rfl ud9 (r := (t.length : Int)) (by rw [b_size])) ?_
  refine JL.go trivial (RX.lt rfl rfl) ?_
  refine JL.nil ?_
  refine J.cond_d rfl (fun hlt => ?_) (fun hlt => ?_)
  · skip
    obtain ⟨ct, hct⟩ : ∃ ct, t[i]? = some ct := ⟨_, List.getElem?_eq_getElem (by omega)⟩
    rw [drop_cons hct] at htk
    refine J.skip ?_
    refine J.seq ?_
    refine J.block ?_
    refine J.seq ?_
    refine J.seq ?_
    refine J.quietH H hmix (by kernel_rfl) ?_
    refine JQ.go trivial (fun w H => RX.movev (v := Value.pointer _) rfl) ?_
    refine JQ.go trivial (fun w H => RX.nilCheck rfl) ?_
    refine JQ.go trivial (fun w H => RX.fieldAddr rfl fo57_1 rfl) ?_
    refine JQ.go trivial (fun w H => RX.load H rfl (i := 0) (v := .int .i64 (posn s (r1) : Nat)) rfl rfl one3) ?_
    refine JQ.go trivial (fun w H => RX.movev (v := Value.pointer _) rfl) ?_
    refine JQ.go trivial (fun w H => RX.nilCheck rfl) ?_
    refine JQ.go trivial (fun w H => RX.fieldAddr rfl fo57_0 rfl) ?_
    refine JQ.go trivial (fun w H => RX.load H rfl (i := 0) (v := .string ⟨s.toArray⟩) rfl rfl one9) ?_
    refine JQ.go trivial (fun w H => RX.len_string rfl ud9 (r := (s.length : Int)) (by rw [b_size])) ?_
    refine JQ.go trivial (fun w H => RX.eq rfl rfl) ?_
    refine JQ.go trivial (fun w H => RX.movev (v := Value.bool _) rfl) ?_
    refine JQ.splitS 22 rfl (fun hend => ?_) (fun hend => ?_)
    · skip
      first | have hendp := of_decide_eq_true hend | skip
      have hnil : r1 = [] := end_of hr1 (by omega)
      refine JQ.no ⟨_, rfl, gno hend⟩ ?_
      refine JQ.no ⟨_, rfl, gno hend⟩ ?_
      refine JQ.no ⟨_, rfl, gno hend⟩ ?_
      refine JQ.no ⟨_, rfl, gno hend⟩ ?_
      refine JQ.no ⟨_, rfl, gno hend⟩ ?_
      refine JQ.no ⟨_, rfl, gno hend⟩ ?_
      refine JQ.no ⟨_, rfl, gno hend⟩ ?_
      refine JQ.no ⟨_, rfl, gno hend⟩ ?_
      refine JQ.no ⟨_, rfl, gno hend⟩ ?_
      refine JQ.no ⟨_, rfl, gno hend⟩ ?_
      refine JQ.no ⟨_, rfl, gno hend⟩ ?_
      refine JQ.no ⟨_, rfl, gno hend⟩ ?_
      refine JQ.no ⟨_, rfl, gno hend⟩ ?_
      refine JQ.go trivial (fun w H => RX.pick_t rfl hend) ?_
      refine JQ.nil fun w H => ?_
      refine J.cond_t rfl rfl ?_
      refine J.seq ?_
      refine J.region ?_
      refine JL.go trivial (RX.assign) ?_
      refine JL.nil ?_
      refine J.ret1 (v := Value.bool _) Tryd.func49 rfl rfl ?_
      first
      | exact ⟨_, rfl, false, r1, by rw [htk, hnil]; rfl, hr1, rfl, H⟩
      | exact ⟨_, rfl, false, c :: r2, by rw [htk, takeP, if_neg (fun h => hne (by rw [h]))]; rfl, hr1, rfl, H⟩
    · skip
      first | have hendp := of_decide_eq_false hend | skip
      obtain ⟨c, r2, rfl⟩ := not_end hr1 (by omega)
      have hps := posn_succ hr1
      refine JQ.go ⟨_, rfl, hend⟩ (fun w H => RX.movev (v := Value.pointer _) rfl) ?_
      refine JQ.go ⟨_, rfl, hend⟩ (fun w H => RX.nilCheck rfl) ?_
      refine JQ.go ⟨_, rfl, hend⟩ (fun w H => RX.fieldAddr rfl fo57_0 rfl) ?_
      refine JQ.go ⟨_, rfl, hend⟩ (fun w H => RX.load H rfl (i := 0) (v := .string ⟨s.toArray⟩) rfl rfl one9) ?_
      refine JQ.go ⟨_, rfl, hend⟩ (fun w H => RX.movev (v := Value.pointer _) rfl) ?_
      refine JQ.go ⟨_, rfl, hend⟩ (fun w H => RX.nilCheck rfl) ?_
      refine JQ.go ⟨_, rfl, hend⟩ (fun w H => RX.fieldAddr rfl fo57_1 rfl) ?_
      refine JQ.go ⟨_, rfl, hend⟩ (fun w H => RX.load H rfl (i := 0) (v := .int .i64 (posn s (c :: r2) : Nat)) rfl rfl one3) ?_
      refine JQ.go ⟨_, rfl, hend⟩ (fun w H => RX.indexStr rfl rfl ud9 (b := c) (by omega) (by simpa using posn_get hr1)) ?_
      refine JQ.go ⟨_, rfl, hend⟩ (fun w H => RX.movev (v := Value.string _) rfl) ?_
      refine JQ.go ⟨_, rfl, hend⟩ (fun w H => RX.movev (v := Value.int _ _) rfl) ?_
      refine JQ.go ⟨_, rfl, hend⟩ (fun w H => RX.indexStr rfl rfl ud9 (b := ct) (by omega) (by simpa using hct)) ?_
      refine JQ.go ⟨_, rfl, hend⟩ (fun w H => RX.ne rfl rfl) ?_
      refine JQ.go trivial (fun w H => RX.pick_f rfl hend) ?_
      refine JQ.nil fun w H => ?_
      refine J.cond_d rfl (fun hne => ?_) (fun hne => ?_)
      · skip
        refine J.seq ?_
        refine J.region ?_
        refine JL.go trivial (RX.assign) ?_
        refine JL.nil ?_
        refine J.ret1 (v := Value.bool _) Tryd.func49 rfl rfl ?_
        first
        | exact ⟨_, rfl, false, r1, by rw [htk, hnil]; rfl, hr1, rfl, H⟩
        | exact ⟨_, rfl, false, c :: r2, by rw [htk, takeP, if_neg (fun h => hne (by rw [h]))]; rfl, hr1, rfl, H⟩
        | exact ⟨_, rfl, true, r1, htk, hr1, rfl, H⟩
      · skip
        refine J.skip ?_
        refine J.region ?_
        refine JL.go trivial (RX.movev (v := Value.pointer _) rfl) ?_
        refine JL.go trivial (RX.nilCheck rfl) ?_
        refine JL.go trivial (RX.fieldAddr rfl fo57_1 rfl) ?_
        refine JL.go trivial (RX.load H rfl (i := 0) (v := .int .i64 (posn s (c :: r2) : Nat)) rfl rfl one3) ?_
        refine JL.go trivial (RX.add rfl rfl (w_i64 (r := ((posn s (r2) : Nat) : Int)) (by omega) (by omega) (by omega))) ?_
        refine JL.go trivial (RX.nilCheck rfl) ?_
        refine JL.go trivial (RX.fieldAddr rfl fo57_1 rfl) ?_
        refine JL.does trivial (EX.store (v := Value.int _ _) H rfl rfl (i := 0) (l' := [.string ⟨s.toArray⟩, .int .i64 (posn s (r2) : Nat), q]) rfl rfl (by simp) sz3 rfl rfl) ?_
        rintro _ w H
        refine JL.nil ?_
        replace H : Hp w0 w (PR bp s r2 q :: F) := H
        rw [takeP, if_pos (u8_eq (by omega))] at htk
        refine J.inBlock ?_
        refine J.region ?_
        refine JL.go trivial (RX.movev (v := Value.int _ _) rfl) ?_
        refine JL.go trivial (RX.add rfl rfl (w_i64 (r := ((i + 1 : Nat) : Int)) (by omega) (by omega) (by omega))) ?_
        refine JL.go trivial (RX.assignv (v := Value.int _ _) rfl) ?_
        refine JL.nil ?_
        exact IH (i + 1, r2) _ _ (by simp only; omega) ⟨rfl, rfl, trivial⟩ ⟨rfl, trivial⟩ ⟨by simp only; omega, suf_tail hr1, htk, H⟩
  · skip
    have hit : i = t.length := by omega
    subst hit
    rw [List.drop_length, takeP] at htk
    refine J.exit rfl ?_
    refine J.seq ?_
    refine J.region ?_
    refine JL.go trivial (RX.assign) ?_
    refine JL.nil ?_
    refine J.ret1 (v := Value.bool _) Tryd.func49 rfl rfl ?_
    first
    | exact ⟨_, rfl, true, r1, htk, hr1, rfl, H⟩
set_option maxHeartbeats 800000 in
theorem rbeg_b {w0 w : World} {F : List Seg} {s r : List UInt8} {bp : Nat} (hr : r <:+ s) (hs : s.length ≤ 1099511627776) {st : List Tr} {p : Option Addr} {c : Nat} {xs : List Value} {sl ss : Seg} (ho : OwnSl 82 3 p st.length c xs sl) (hk : KidsOwn st xs ss) (hst : st.length ≤ 1000000) (H : Hp w0 w (PR bp s r (.slice p st.length c) :: sl :: ss :: F)) : Ret Tryd.prog 34 [.pointer (some ⟨bp, 0, none⟩)] w fun v w' => BegR bp s r st w0 F v w' := by
  refine Calls.of_J (n := 109) Tryd.func34 rfl rfl rfl ?_
  refine J.seq ?_
  refine J.region ?_
  refine JL.does trivial (EX.alloc H zr25 rfl) ?_
  rintro _ w ⟨b2, rfl, H⟩
  refine JL.go trivial (RX.assign) ?_
  refine JL.go trivial (RX.assign) ?_
  refine JL.nil ?_
  refine J.seq ?_
  refine J.seq ?_
  refine J.quietH H hmix (by kernel_rfl) ?_
  refine JQ.go trivial (fun w H => RX.movev (v := Value.pointer _) rfl) ?_
  refine JQ.go trivial (fun w H => RX.nilCheck rfl) ?_
  refine JQ.go trivial (fun w H => RX.fieldAddr rfl fo57_1 rfl) ?_
  refine JQ.go trivial (fun w H => RX.load H rfl (i := 1) (v := .int .i64 (posn s (r) : Nat)) rfl rfl one3) ?_
  refine JQ.go trivial (fun w H => RX.movev (v := Value.pointer _) rfl) ?_
  refine JQ.go trivial (fun w H => RX.nilCheck rfl) ?_
  refine JQ.go trivial (fun w H => RX.fieldAddr rfl fo57_0 rfl) ?_
  refine JQ.go trivial (fun w H => RX.load H rfl (i := 1) (v := .string ⟨s.toArray⟩) rfl rfl one9) ?_
  refine JQ.go trivial (fun w H => RX.len_string rfl ud9 (r := (s.length : Int)) (by rw [b_size])) ?_
  refine JQ.go trivial (fun w H => RX.eq rfl rfl) ?_
  refine JQ.nil fun w H => ?_
  refine J.cond_d rfl (fun hend => ?_) (fun hend => ?_)
  · skip
    obtain rfl : r = [] := end_of hr (by omega)
    refine J.seq ?_
    refine J.region ?_
    refine JL.go trivial (RX.build (pv := []) (res := tv 0 0 none 0 0) rfl (by kernel_rfl)) ?_
    refine JL.does trivial (EX.storeAgg H rfl rfl (i := 0) (vs := tv 0 0 none 0 0) (l' := tv 0 0 none 0 0) rfl tv_cell (by simp) sz25 rfl rfl) ?_
    rintro _ w H
    refine JL.go trivial (RX.assign) ?_
    refine JL.go trivial (RX.assign) ?_
    refine JL.nil ?_
    first
    | refine J.retctt (x := Value.bool _) Tryd.func34 rfl H rfl (i := 0) (vs := tv 0 0 none 0 0) rfl rfl ag25 rfl rfl ?_
    | refine J.retctt (x := Value.bool _) Tryd.func34 rfl H rfl (i := 1) (vs := tv 0 0 none 0 0) rfl rfl ag25 rfl rfl ?_
    | refine J.retctt (x := Value.bool _) Tryd.func34 rfl H rfl (i := 2) (vs := tv 0 0 none 0 0) rfl rfl ag25 rfl rfl ?_
    | refine J.retctt (x := Value.bool _) Tryd.func34 rfl H rfl (i := 1) (vs := tv q (n : Nat) none 0 0) rfl rfl ag25 rfl rfl ?_
    first
    | exact ⟨_, rfl, 0, 0, false, false, p, c, xs, sl, ss, st, [], rfl, ho, hk, hr, H.drop, .inl ⟨rfl, rfl⟩⟩
    | (by_cases hz : n = 0
       · subst hz
         rw [if_pos rfl] at hnp
         refine ⟨_, rfl, q, 0, true, false, p, c, xs, sl, ss, st, r3, rfl, ho, hk, hr3, (H.pull 1 rfl).drop, .inl ⟨rfl, ?_⟩⟩
         rcases hq with ⟨_, e⟩ | ⟨_, e⟩
         · rw [begS, if_pos e, hnp]
         · rw [begS, if_neg (by omega), if_pos e, hnp]
       · rw [if_neg hz] at hnp
         refine ⟨_, rfl, q, n, true, _, p, c, xs, sl, ss, st, r3, rfl, ho, hk, hr3, (H.pull 1 rfl).drop, .inr (.inl ⟨rfl, decide_eq_true (by omega), ?_, rfl⟩)⟩
         rcases hq with ⟨rfl, e⟩ | ⟨rfl, e⟩
         · rw [begS, if_pos e, hnp]
         · rw [begS, if_neg (by omega), if_pos e, hnp])
    | (refine ⟨_, rfl, 0, 0, false, true, p2, c2, _, sl2, ss, st ++ [.node 3 0 []], r2, rfl, by rw [List.length_append]; exact ho2, hk2, hr2, by rw [List.length_append]; exact ((H.drop.pull 1 rfl).drop), .inr (.inr ⟨rfl, rfl, _, ?_, rfl, Nat.zero_le _⟩)⟩
       rw [begS, if_neg (by omega), if_neg (by omega), if_pos (by omega)])
    | (refine ⟨_, rfl, 0, 0, false, false, p, c, xs, sl, ss, st, r3, rfl, ho, hk, hr3, (H.pull 1 rfl).drop, .inl ⟨rfl, ?_⟩⟩
       rw [if_pos (by omega)] at hnp
       rw [begS, if_neg (by omega), if_neg (by omega), if_neg (by omega), if_pos (by omega), hnp])
    | (obtain rfl : bk = false := by simpa using hno
       refine ⟨_, rfl, 0, 0, false, false, p, c, xs, sl, ss, st, r4, rfl, ho, hk, hr4, (H.pull 1 rfl).drop, .inl ⟨rfl, ?_⟩⟩
       rw [if_neg (by omega)] at hnp
       rw [begS, if_neg (by omega), if_neg (by omega), if_neg (by omega), if_pos (by omega), hnp]
       dsimp only
       rw [htk]
       rfl)
    | (refine ⟨_, rfl, 0, 0, false, false, p, c, xs, sl, ss, st, ch :: r2, rfl, ho, hk, hr, H.drop, .inl ⟨rfl, ?_⟩⟩
       rw [begS, if_neg (by omega), if_neg (by omega), if_neg (by omega), if_neg (by omega)])
  · skip
    obtain ⟨ch, r2, rfl⟩ := not_end hr (by omega)
    have hps := posn_succ hr
    have hr2 := suf_tail hr
    refine J.skip ?_
    refine J.seq ?_
    refine J.seq ?_
    refine J.quietH H hmix (by kernel_rfl) ?_
    refine JQ.go trivial (fun w H => RX.movev (v := Value.pointer _) rfl) ?_
    refine JQ.go trivial (fun w H => RX.nilCheck rfl) ?_
    refine JQ.go trivial (fun w H => RX.fieldAddr rfl fo57_0 rfl) ?_
    refine JQ.go trivial (fun w H => RX.load H rfl (i := 1) (v := .string ⟨s.toArray⟩) rfl rfl one9) ?_
    refine JQ.go trivial (fun w H => RX.movev (v := Value.pointer _) rfl) ?_
    refine JQ.go trivial (fun w H => RX.nilCheck rfl) ?_
    refine JQ.go trivial (fun w H => RX.fieldAddr rfl fo57_1 rfl) ?_
    refine JQ.go trivial (fun w H => RX.load H rfl (i := 1) (v := .int .i64 (posn s (ch :: r2) : Nat)) rfl rfl one3) ?_
    refine JQ.go trivial (fun w H => RX.indexStr rfl rfl ud9 (b := ch) (by omega) (by simpa using posn_get hr)) ?_
    refine JQ.nil fun w H => ?_
    refine J.block ?_
    refine J.seq ?_
    refine J.seq ?_
    refine J.region ?_
    refine JL.go trivial (RX.eq rfl rfl) ?_
    refine JL.go trivial (RX.assignv (v := Value.bool _) rfl) ?_
    refine JL.nil ?_
    refine J.cond_d rfl (fun hdf => ?_) (fun hdf => ?_)
    · skip
      refine J.skip ?_
      refine J.cond_t rfl (decide_eq_true hdf) ?_
      refine J.seq ?_
      refine J.region ?_
      refine JL.go trivial (RX.assign) ?_
      refine JL.nil ?_
      refine J.seq ?_
      refine J.seq ?_
      refine J.quietH H hmix (by kernel_rfl) ?_
      refine JQ.go trivial (fun w H => RX.movev (v := Value.pointer _) rfl) ?_
      refine JQ.go trivial (fun w H => RX.nilCheck rfl) ?_
      refine JQ.go trivial (fun w H => RX.fieldAddr rfl fo57_0 rfl) ?_
      refine JQ.go trivial (fun w H => RX.load H rfl (i := 1) (v := .string ⟨s.toArray⟩) rfl rfl one9) ?_
      refine JQ.go trivial (fun w H => RX.movev (v := Value.pointer _) rfl) ?_
      refine JQ.go trivial (fun w H => RX.nilCheck rfl) ?_
      refine JQ.go trivial (fun w H => RX.fieldAddr rfl fo57_1 rfl) ?_
      refine JQ.go trivial (fun w H => RX.load H rfl (i := 1) (v := .int .i64 (posn s (ch :: r2) : Nat)) rfl rfl one3) ?_
      refine JQ.go trivial (fun w H => RX.indexStr rfl rfl ud9 (b := ch) (by omega) (by simpa using posn_get hr)) ?_
      refine JQ.go trivial (fun w H => RX.eq rfl rfl) ?_
      refine JQ.nil fun w H => ?_
      refine J.join (ι := Int) (fun q => [(5, .int .i64 q)]) (fun q w => (q = 1 ∧ ch.toNat = 100 ∨ q = 2 ∧ ch.toNat = 102) ∧ Hp w0 w ([(b2, cel (tv 0 0 none 0 0) 25)] :: PR bp s (ch :: r2) (.slice p st.length c) :: sl :: ss :: F)) [(0, _), (2, _)] ⟨rfl, rfl, trivial⟩ ?_ ?_
      rotate_left
      · skip
        intro k2 hk2
        refine J.cond_d rfl (fun hf => ?_) (fun hf => ?_)
        · skip
          refine J.region ?_
          refine JL.go trivial (RX.assign) ?_
          refine JL.nil ?_
          first
          | exact hk2 1 _ _ ⟨rfl, rfl, trivial⟩ ⟨rfl, trivial⟩ ⟨by omega, H⟩
          | exact hk2 2 _ _ ⟨rfl, rfl, trivial⟩ ⟨rfl, trivial⟩ ⟨by omega, H⟩
        · skip
          refine J.skip ?_
          first
          | exact hk2 1 _ _ ⟨rfl, rfl, trivial⟩ ⟨rfl, trivial⟩ ⟨by omega, H⟩
          | exact hk2 2 _ _ ⟨rfl, rfl, trivial⟩ ⟨rfl, trivial⟩ ⟨by omega, H⟩
      · skip
        clear H
        rintro q ρ w ⟨hq, H⟩
        refine J.seq ?_
        refine J.region ?_
        refine JL.go trivial (RX.movev (v := Value.pointer _) rfl) ?_
        refine JL.go trivial (RX.nilCheck rfl) ?_
        refine JL.go trivial (RX.fieldAddr rfl fo57_1 rfl) ?_
        refine JL.go trivial (RX.load H rfl (i := 1) (v := .int .i64 (posn s (ch :: r2) : Nat)) rfl rfl one3) ?_
        refine JL.go trivial (RX.add rfl rfl (w_i64 (r := ((posn s (r2) : Nat) : Int)) (by omega) (by omega) (by omega))) ?_
        refine JL.go trivial (RX.nilCheck rfl) ?_
        refine JL.go trivial (RX.fieldAddr rfl fo57_1 rfl) ?_
        refine JL.does trivial (EX.store (v := Value.int _ _) H rfl rfl (i := 1) (l' := [.string ⟨s.toArray⟩, .int .i64 (posn s (r2) : Nat), .slice p st.length c]) rfl rfl (by simp) sz3 rfl rfl) ?_
        rintro _ w H
        refine JL.nil ?_
        replace H : Hp w0 w (PR bp s r2 (.slice p st.length c) :: [(b2, cel (tv 0 0 none 0 0) 25)] :: sl :: ss :: F) := H.pull 1 rfl
        refine J.seq ?_
        refine J.region ?_
        refine JL.go trivial (RX.movev (v := Value.pointer _) rfl) ?_
        refine JL.does trivial (EX.call rfl cl48 rfl ((rnum_b hr2 hs H))) ?_
        rintro _ w ⟨n, r3, hd, hr3, rfl, H⟩
        have hnp := num_of hd
        refine JL.go trivial (RX.assignv (v := Value.int _ _) rfl) ?_
        refine JL.nil ?_
        refine J.seq ?_
        refine J.region ?_
        refine JL.go trivial (RX.movev (v := Value.int _ _) rfl) ?_
        refine JL.go trivial (RX.movev (v := Value.int _ _) rfl) ?_
        refine JL.go trivial (RX.build (pv := [(0, .int .i64 q), (1, .int .i64 (n : Nat))]) (res := tv q (n : Nat) none 0 0) rfl (by kernel_rfl)) ?_
        refine JL.go trivial (RX.movev (v := Value.int _ _) rfl) ?_
        refine JL.go trivial (RX.gt rfl rfl) ?_
        refine JL.does trivial (EX.storeAgg H rfl rfl (i := 1) (vs := tv q (n : Nat) none 0 0) (l' := tv q (n : Nat) none 0 0) rfl tv_cell (by simp) sz25 rfl rfl) ?_
        rintro _ w H
        refine JL.go trivial (RX.assign) ?_
        refine JL.go trivial (RX.assignv (v := Value.bool _) rfl) ?_
        refine JL.nil ?_
        first
        | refine J.retctt (x := Value.bool _) Tryd.func34 rfl H rfl (i := 0) (vs := tv 0 0 none 0 0) rfl rfl ag25 rfl rfl ?_
        | refine J.retctt (x := Value.bool _) Tryd.func34 rfl H rfl (i := 1) (vs := tv 0 0 none 0 0) rfl rfl ag25 rfl rfl ?_
        | refine J.retctt (x := Value.bool _) Tryd.func34 rfl H rfl (i := 2) (vs := tv 0 0 none 0 0) rfl rfl ag25 rfl rfl ?_
        | refine J.retctt (x := Value.bool _) Tryd.func34 rfl H rfl (i := 1) (vs := tv q (n : Nat) none 0 0) rfl rfl ag25 rfl rfl ?_
        first
        | exact ⟨_, rfl, 0, 0, false, false, p, c, xs, sl, ss, st, [], rfl, ho, hk, hr, H.drop, .inl ⟨rfl, rfl⟩⟩
        | (by_cases hz : n = 0
           · subst hz
             rw [if_pos rfl] at hnp
             refine ⟨_, rfl, q, 0, true, false, p, c, xs, sl, ss, st, r3, rfl, ho, hk, hr3, (H.pull 1 rfl).drop, .inl ⟨rfl, ?_⟩⟩
             rcases hq with ⟨_, e⟩ | ⟨_, e⟩
             · rw [begS, if_pos e, hnp]
             · rw [begS, if_neg (by omega), if_pos e, hnp]
           · rw [if_neg hz] at hnp
             refine ⟨_, rfl, q, n, true, _, p, c, xs, sl, ss, st, r3, rfl, ho, hk, hr3, (H.pull 1 rfl).drop, .inr (.inl ⟨rfl, decide_eq_true (by omega), ?_, rfl⟩)⟩
             rcases hq with ⟨rfl, e⟩ | ⟨rfl, e⟩
             · rw [begS, if_pos e, hnp]
             · rw [begS, if_neg (by omega), if_pos e, hnp])
        | (refine ⟨_, rfl, 0, 0, false, true, p2, c2, _, sl2, ss, st ++ [.node 3 0 []], r2, rfl, by rw [List.length_append]; exact ho2, hk2, hr2, by rw [List.length_append]; exact ((H.drop.pull 1 rfl).drop), .inr (.inr ⟨rfl, rfl, _, ?_, rfl, Nat.zero_le _⟩)⟩
           rw [begS, if_neg (by omega), if_neg (by omega), if_pos (by omega)])
        | (refine ⟨_, rfl, 0, 0, false, false, p, c, xs, sl, ss, st, r3, rfl, ho, hk, hr3, (H.pull 1 rfl).drop, .inl ⟨rfl, ?_⟩⟩
           rw [if_pos (by omega)] at hnp
           rw [begS, if_neg (by omega), if_neg (by omega), if_neg (by omega), if_pos (by omega), hnp])
        | (obtain rfl : bk = false := by simpa using hno
           refine ⟨_, rfl, 0, 0, false, false, p, c, xs, sl, ss, st, r4, rfl, ho, hk, hr4, (H.pull 1 rfl).drop, .inl ⟨rfl, ?_⟩⟩
           rw [if_neg (by omega)] at hnp
           rw [begS, if_neg (by omega), if_neg (by omega), if_neg (by omega), if_pos (by omega), hnp]
           dsimp only
           rw [htk]
           rfl)
        | (refine ⟨_, rfl, 0, 0, false, false, p, c, xs, sl, ss, st, ch :: r2, rfl, ho, hk, hr, H.drop, .inl ⟨rfl, ?_⟩⟩
           rw [begS, if_neg (by omega), if_neg (by omega), if_neg (by omega), if_neg (by omega)])
    · skip
      refine J.region ?_
      refine JL.go trivial (RX.eq rfl rfl) ?_
      refine JL.go trivial (RX.assignv (v := Value.bool _) rfl) ?_
      refine JL.nil ?_
      refine J.cond_d rfl (fun hdf => ?_) (fun hdf => ?_)
      · skip
        refine J.seq ?_
        refine J.region ?_
        refine JL.go trivial (RX.assign) ?_
        refine JL.nil ?_
        refine J.seq ?_
        refine J.seq ?_
        refine J.quietH H hmix (by kernel_rfl) ?_
        refine JQ.go trivial (fun w H => RX.movev (v := Value.pointer _) rfl) ?_
        refine JQ.go trivial (fun w H => RX.nilCheck rfl) ?_
        refine JQ.go trivial (fun w H => RX.fieldAddr rfl fo57_0 rfl) ?_
        refine JQ.go trivial (fun w H => RX.load H rfl (i := 1) (v := .string ⟨s.toArray⟩) rfl rfl one9) ?_
        refine JQ.go trivial (fun w H => RX.movev (v := Value.pointer _) rfl) ?_
        refine JQ.go trivial (fun w H => RX.nilCheck rfl) ?_
        refine JQ.go trivial (fun w H => RX.fieldAddr rfl fo57_1 rfl) ?_
        refine JQ.go trivial (fun w H => RX.load H rfl (i := 1) (v := .int .i64 (posn s (ch :: r2) : Nat)) rfl rfl one3) ?_
        refine JQ.go trivial (fun w H => RX.indexStr rfl rfl ud9 (b := ch) (by omega) (by simpa using posn_get hr)) ?_
        refine JQ.go trivial (fun w H => RX.eq rfl rfl) ?_
        refine JQ.nil fun w H => ?_
        refine J.join (ι := Int) (fun q => [(5, .int .i64 q)]) (fun q w => (q = 1 ∧ ch.toNat = 100 ∨ q = 2 ∧ ch.toNat = 102) ∧ Hp w0 w ([(b2, cel (tv 0 0 none 0 0) 25)] :: PR bp s (ch :: r2) (.slice p st.length c) :: sl :: ss :: F)) [(0, _), (2, _)] ⟨rfl, rfl, trivial⟩ ?_ ?_
        rotate_left
        · skip
          intro k2 hk2
          refine J.cond_d rfl (fun hf => ?_) (fun hf => ?_)
          · skip
            refine J.region ?_
            refine JL.go trivial (RX.assign) ?_
            refine JL.nil ?_
            first
            | exact hk2 1 _ _ ⟨rfl, rfl, trivial⟩ ⟨rfl, trivial⟩ ⟨by omega, H⟩
            | exact hk2 2 _ _ ⟨rfl, rfl, trivial⟩ ⟨rfl, trivial⟩ ⟨by omega, H⟩
          · skip
            refine J.skip ?_
            first
            | exact hk2 1 _ _ ⟨rfl, rfl, trivial⟩ ⟨rfl, trivial⟩ ⟨by omega, H⟩
            | exact hk2 2 _ _ ⟨rfl, rfl, trivial⟩ ⟨rfl, trivial⟩ ⟨by omega, H⟩
        · skip
          clear H
          rintro q ρ w ⟨hq, H⟩
          refine J.seq ?_
          refine J.region ?_
          refine JL.go trivial (RX.movev (v := Value.pointer _) rfl) ?_
          refine JL.go trivial (RX.nilCheck rfl) ?_
          refine JL.go trivial (RX.fieldAddr rfl fo57_1 rfl) ?_
          refine JL.go trivial (RX.load H rfl (i := 1) (v := .int .i64 (posn s (ch :: r2) : Nat)) rfl rfl one3) ?_
          refine JL.go trivial (RX.add rfl rfl (w_i64 (r := ((posn s (r2) : Nat) : Int)) (by omega) (by omega) (by omega))) ?_
          refine JL.go trivial (RX.nilCheck rfl) ?_
          refine JL.go trivial (RX.fieldAddr rfl fo57_1 rfl) ?_
          refine JL.does trivial (EX.store (v := Value.int _ _) H rfl rfl (i := 1) (l' := [.string ⟨s.toArray⟩, .int .i64 (posn s (r2) : Nat), .slice p st.length c]) rfl rfl (by simp) sz3 rfl rfl) ?_
          rintro _ w H
          refine JL.nil ?_
          replace H : Hp w0 w (PR bp s r2 (.slice p st.length c) :: [(b2, cel (tv 0 0 none 0 0) 25)] :: sl :: ss :: F) := H.pull 1 rfl
          refine J.seq ?_
          refine J.region ?_
          refine JL.go trivial (RX.movev (v := Value.pointer _) rfl) ?_
          refine JL.does trivial (EX.call rfl cl48 rfl ((rnum_b hr2 hs H))) ?_
          rintro _ w ⟨n, r3, hd, hr3, rfl, H⟩
          have hnp := num_of hd
          refine JL.go trivial (RX.assignv (v := Value.int _ _) rfl) ?_
          refine JL.nil ?_
          refine J.seq ?_
          refine J.region ?_
          refine JL.go trivial (RX.movev (v := Value.int _ _) rfl) ?_
          refine JL.go trivial (RX.movev (v := Value.int _ _) rfl) ?_
          refine JL.go trivial (RX.build (pv := [(0, .int .i64 q), (1, .int .i64 (n : Nat))]) (res := tv q (n : Nat) none 0 0) rfl (by kernel_rfl)) ?_
          refine JL.go trivial (RX.movev (v := Value.int _ _) rfl) ?_
          refine JL.go trivial (RX.gt rfl rfl) ?_
          refine JL.does trivial (EX.storeAgg H rfl rfl (i := 1) (vs := tv q (n : Nat) none 0 0) (l' := tv q (n : Nat) none 0 0) rfl tv_cell (by simp) sz25 rfl rfl) ?_
          rintro _ w H
          refine JL.go trivial (RX.assign) ?_
          refine JL.go trivial (RX.assignv (v := Value.bool _) rfl) ?_
          refine JL.nil ?_
          first
          | refine J.retctt (x := Value.bool _) Tryd.func34 rfl H rfl (i := 0) (vs := tv 0 0 none 0 0) rfl rfl ag25 rfl rfl ?_
          | refine J.retctt (x := Value.bool _) Tryd.func34 rfl H rfl (i := 1) (vs := tv 0 0 none 0 0) rfl rfl ag25 rfl rfl ?_
          | refine J.retctt (x := Value.bool _) Tryd.func34 rfl H rfl (i := 2) (vs := tv 0 0 none 0 0) rfl rfl ag25 rfl rfl ?_
          | refine J.retctt (x := Value.bool _) Tryd.func34 rfl H rfl (i := 1) (vs := tv q (n : Nat) none 0 0) rfl rfl ag25 rfl rfl ?_
          first
          | exact ⟨_, rfl, 0, 0, false, false, p, c, xs, sl, ss, st, [], rfl, ho, hk, hr, H.drop, .inl ⟨rfl, rfl⟩⟩
          | (by_cases hz : n = 0
             · subst hz
               rw [if_pos rfl] at hnp
               refine ⟨_, rfl, q, 0, true, false, p, c, xs, sl, ss, st, r3, rfl, ho, hk, hr3, (H.pull 1 rfl).drop, .inl ⟨rfl, ?_⟩⟩
               rcases hq with ⟨_, e⟩ | ⟨_, e⟩
               · rw [begS, if_pos e, hnp]
               · rw [begS, if_neg (by omega), if_pos e, hnp]
             · rw [if_neg hz] at hnp
               refine ⟨_, rfl, q, n, true, _, p, c, xs, sl, ss, st, r3, rfl, ho, hk, hr3, (H.pull 1 rfl).drop, .inr (.inl ⟨rfl, decide_eq_true (by omega), ?_, rfl⟩)⟩
               rcases hq with ⟨rfl, e⟩ | ⟨rfl, e⟩
               · rw [begS, if_pos e, hnp]
               · rw [begS, if_neg (by omega), if_pos e, hnp])
          | (refine ⟨_, rfl, 0, 0, false, true, p2, c2, _, sl2, ss, st ++ [.node 3 0 []], r2, rfl, by rw [List.length_append]; exact ho2, hk2, hr2, by rw [List.length_append]; exact ((H.drop.pull 1 rfl).drop), .inr (.inr ⟨rfl, rfl, _, ?_, rfl, Nat.zero_le _⟩)⟩
             rw [begS, if_neg (by omega), if_neg (by omega), if_pos (by omega)])
          | (refine ⟨_, rfl, 0, 0, false, false, p, c, xs, sl, ss, st, r3, rfl, ho, hk, hr3, (H.pull 1 rfl).drop, .inl ⟨rfl, ?_⟩⟩
             rw [if_pos (by omega)] at hnp
             rw [begS, if_neg (by omega), if_neg (by omega), if_neg (by omega), if_pos (by omega), hnp])
          | (obtain rfl : bk = false := by simpa using hno
             refine ⟨_, rfl, 0, 0, false, false, p, c, xs, sl, ss, st, r4, rfl, ho, hk, hr4, (H.pull 1 rfl).drop, .inl ⟨rfl, ?_⟩⟩
             rw [if_neg (by omega)] at hnp
             rw [begS, if_neg (by omega), if_neg (by omega), if_neg (by omega), if_pos (by omega), hnp]
             dsimp only
             rw [htk]
             rfl)
          | (refine ⟨_, rfl, 0, 0, false, false, p, c, xs, sl, ss, st, ch :: r2, rfl, ho, hk, hr, H.drop, .inl ⟨rfl, ?_⟩⟩
             rw [begS, if_neg (by omega), if_neg (by omega), if_neg (by omega), if_neg (by omega)])
      · skip
        refine J.seq ?_
        refine J.region ?_
        refine JL.go trivial (RX.eq rfl rfl) ?_
        refine JL.go trivial (RX.assignv (v := Value.bool _) rfl) ?_
        refine JL.nil ?_
        refine J.cond_d rfl (fun h40 => ?_) (fun h40 => ?_)
        · skip
          refine J.seq ?_
          refine J.region ?_
          refine JL.go trivial (RX.movev (v := Value.pointer _) rfl) ?_
          refine JL.go trivial (RX.nilCheck rfl) ?_
          refine JL.go trivial (RX.fieldAddr rfl fo57_1 rfl) ?_
          refine JL.go trivial (RX.load H rfl (i := 1) (v := .int .i64 (posn s (ch :: r2) : Nat)) rfl rfl one3) ?_
          refine JL.go trivial (RX.add rfl rfl (w_i64 (r := ((posn s (r2) : Nat) : Int)) (by omega) (by omega) (by omega))) ?_
          refine JL.go trivial (RX.nilCheck rfl) ?_
          refine JL.go trivial (RX.fieldAddr rfl fo57_1 rfl) ?_
          refine JL.does trivial (EX.store (v := Value.int _ _) H rfl rfl (i := 1) (l' := [.string ⟨s.toArray⟩, .int .i64 (posn s (r2) : Nat), .slice p st.length c]) rfl rfl (by simp) sz3 rfl rfl) ?_
          rintro _ w H
          refine JL.nil ?_
          replace H : Hp w0 w (PR bp s r2 (.slice p st.length c) :: [(b2, cel (tv 0 0 none 0 0) 25)] :: sl :: ss :: F) := H.pull 1 rfl
          refine J.seq ?_
          refine J.region ?_
          refine JL.go trivial (RX.movev (v := Value.pointer _) rfl) ?_
          refine JL.go trivial (RX.movev (v := Value.pointer _) rfl) ?_
          refine JL.go trivial (RX.nilCheck rfl) ?_
          refine JL.go trivial (RX.fieldAddr rfl fo57_2 rfl) ?_
          refine JL.go trivial (RX.load H rfl (i := 0) (v := .slice p st.length c) rfl rfl one55) ?_
          refine JL.go trivial (RX.build (pv := [(0, .int .i64 3)]) (res := tv 3 0 none 0 0) rfl (by kernel_rfl)) ?_
          refine JL.go trivial (RX.build (pv := [(0, .agg (tv 3 0 none 0 0).toArray)]) (res := tv 3 0 none 0 0) rfl (by kernel_rfl)) ?_
          refine JL.does trivial (EX.buildSlice (pv := [(0, .agg (tv 3 0 none 0 0).toArray)]) (l := tv 3 0 none 0 0) (e := 82) H rfl (by kernel_rfl)) ?_
          rintro _ w ⟨bb, rfl, H⟩
          refine JL.does trivial (EX.append (ys := tv 3 0 none 0 0) (L' := fun s' => [(bb, cel (tv 3 0 none 0 0) 82)] :: PR bp s r2 (.slice p st.length c) :: [(b2, cel (tv 0 0 none 0 0) 25)] :: s' :: ss :: F) H elR rfl rfl (i := 3) rfl ho (SlAt.here rfl) rfl tv_cell (by decide) (by omega) (by omega) (fun _ => rfl)) ?_
          rintro _ w ⟨p2, c2, sl2, rfl, ho2, H⟩
          have hk2 := hk.snoc (Tr.Own.leaf (k := 3) (n := 0))
          rw [List.append_nil] at hk2
          refine JL.go trivial (RX.nilCheck rfl) ?_
          refine JL.go trivial (RX.fieldAddr rfl fo57_2 rfl) ?_
          refine JL.does trivial (EX.store (v := Value.slice _ _ _) H rfl rfl (i := 1) (l' := [.string ⟨s.toArray⟩, .int .i64 (posn s (r2) : Nat), .slice p2 (st.length + 1) c2]) rfl rfl (by simp) sz55 rfl rfl) ?_
          rintro _ w H
          refine JL.nil ?_
          refine J.seq ?_
          refine J.region ?_
          refine JL.go trivial (RX.build (pv := []) (res := tv 0 0 none 0 0) rfl (by kernel_rfl)) ?_
          refine JL.does trivial (EX.storeAgg H rfl rfl (i := 2) (vs := tv 0 0 none 0 0) (l' := tv 0 0 none 0 0) rfl tv_cell (by simp) sz25 rfl rfl) ?_
          rintro _ w H
          refine JL.go trivial (RX.assign) ?_
          refine JL.go trivial (RX.assign) ?_
          refine JL.nil ?_
          first
          | refine J.retctt (x := Value.bool _) Tryd.func34 rfl H rfl (i := 0) (vs := tv 0 0 none 0 0) rfl rfl ag25 rfl rfl ?_
          | refine J.retctt (x := Value.bool _) Tryd.func34 rfl H rfl (i := 1) (vs := tv 0 0 none 0 0) rfl rfl ag25 rfl rfl ?_
          | refine J.retctt (x := Value.bool _) Tryd.func34 rfl H rfl (i := 2) (vs := tv 0 0 none 0 0) rfl rfl ag25 rfl rfl ?_
          | refine J.retctt (x := Value.bool _) Tryd.func34 rfl H rfl (i := 1) (vs := tv q (n : Nat) none 0 0) rfl rfl ag25 rfl rfl ?_
          first
          | exact ⟨_, rfl, 0, 0, false, false, p, c, xs, sl, ss, st, [], rfl, ho, hk, hr, H.drop, .inl ⟨rfl, rfl⟩⟩
          | (by_cases hz : n = 0
             · subst hz
               rw [if_pos rfl] at hnp
               refine ⟨_, rfl, q, 0, true, false, p, c, xs, sl, ss, st, r3, rfl, ho, hk, hr3, (H.pull 1 rfl).drop, .inl ⟨rfl, ?_⟩⟩
               rcases hq with ⟨_, e⟩ | ⟨_, e⟩
               · rw [begS, if_pos e, hnp]
               · rw [begS, if_neg (by omega), if_pos e, hnp]
             · rw [if_neg hz] at hnp
               refine ⟨_, rfl, q, n, true, _, p, c, xs, sl, ss, st, r3, rfl, ho, hk, hr3, (H.pull 1 rfl).drop, .inr (.inl ⟨rfl, decide_eq_true (by omega), ?_, rfl⟩)⟩
               rcases hq with ⟨rfl, e⟩ | ⟨rfl, e⟩
               · rw [begS, if_pos e, hnp]
               · rw [begS, if_neg (by omega), if_pos e, hnp])
          | (refine ⟨_, rfl, 0, 0, false, true, p2, c2, _, sl2, ss, st ++ [.node 3 0 []], r2, rfl, by rw [List.length_append]; exact ho2, hk2, hr2, by rw [List.length_append]; exact ((H.drop.pull 1 rfl).drop), .inr (.inr ⟨rfl, rfl, _, ?_, rfl, Nat.zero_le _⟩)⟩
             rw [begS, if_neg (by omega), if_neg (by omega), if_pos (by omega)])
          | (refine ⟨_, rfl, 0, 0, false, false, p, c, xs, sl, ss, st, r3, rfl, ho, hk, hr3, (H.pull 1 rfl).drop, .inl ⟨rfl, ?_⟩⟩
             rw [if_pos (by omega)] at hnp
             rw [begS, if_neg (by omega), if_neg (by omega), if_neg (by omega), if_pos (by omega), hnp])
          | (obtain rfl : bk = false := by simpa using hno
             refine ⟨_, rfl, 0, 0, false, false, p, c, xs, sl, ss, st, r4, rfl, ho, hk, hr4, (H.pull 1 rfl).drop, .inl ⟨rfl, ?_⟩⟩
             rw [if_neg (by omega)] at hnp
             rw [begS, if_neg (by omega), if_neg (by omega), if_neg (by omega), if_pos (by omega), hnp]
             dsimp only
             rw [htk]
             rfl)
          | (refine ⟨_, rfl, 0, 0, false, false, p, c, xs, sl, ss, st, ch :: r2, rfl, ho, hk, hr, H.drop, .inl ⟨rfl, ?_⟩⟩
             rw [begS, if_neg (by omega), if_neg (by omega), if_neg (by omega), if_neg (by omega)])
        · skip
          refine J.seq ?_
          refine J.region ?_
          refine JL.go trivial (RX.eq rfl rfl) ?_
          refine JL.go trivial (RX.assignv (v := Value.bool _) rfl) ?_
          refine JL.nil ?_
          refine J.cond_d rfl (fun h98 => ?_) (fun h98 => ?_)
          · skip
            refine J.seq ?_
            refine J.region ?_
            refine JL.go trivial (RX.movev (v := Value.pointer _) rfl) ?_
            refine JL.go trivial (RX.nilCheck rfl) ?_
            refine JL.go trivial (RX.fieldAddr rfl fo57_1 rfl) ?_
            refine JL.go trivial (RX.load H rfl (i := 1) (v := .int .i64 (posn s (ch :: r2) : Nat)) rfl rfl one3) ?_
            refine JL.go trivial (RX.add rfl rfl (w_i64 (r := ((posn s (r2) : Nat) : Int)) (by omega) (by omega) (by omega))) ?_
            refine JL.go trivial (RX.nilCheck rfl) ?_
            refine JL.go trivial (RX.fieldAddr rfl fo57_1 rfl) ?_
            refine JL.does trivial (EX.store (v := Value.int _ _) H rfl rfl (i := 1) (l' := [.string ⟨s.toArray⟩, .int .i64 (posn s (r2) : Nat), .slice p st.length c]) rfl rfl (by simp) sz3 rfl rfl) ?_
            rintro _ w H
            refine JL.nil ?_
            replace H : Hp w0 w (PR bp s r2 (.slice p st.length c) :: [(b2, cel (tv 0 0 none 0 0) 25)] :: sl :: ss :: F) := H.pull 1 rfl
            refine J.seq ?_
            refine J.region ?_
            refine JL.go trivial (RX.movev (v := Value.pointer _) rfl) ?_
            refine JL.does trivial (EX.call rfl cl48 rfl ((rnum_b hr2 hs H))) ?_
            rintro _ w ⟨n, r3, hd, hr3, rfl, H⟩
            have hnp := num_of hd
            refine JL.go trivial (RX.assignv (v := Value.int _ _) rfl) ?_
            refine JL.nil ?_
            refine J.seq ?_
            refine J.seq ?_
            refine J.region ?_
            refine JL.go trivial (RX.movev (v := Value.int _ _) rfl) ?_
            refine JL.go trivial (RX.eq rfl rfl) ?_
            refine JL.go trivial (RX.movev (v := Value.bool _) rfl) ?_
            refine JL.splitS 89 rfl (fun hn0 => ?_) (fun hn0 => ?_)
            · skip
              first | have hn0p := of_decide_eq_true hn0 | skip
              refine JL.no ⟨_, rfl, gno hn0⟩ ?_
              refine JL.no ⟨_, rfl, gno hn0⟩ ?_
              refine JL.no ⟨_, rfl, gno hn0⟩ ?_
              refine JL.go trivial (RX.pick_t rfl hn0) ?_
              refine JL.nil ?_
              refine J.cond_t rfl rfl ?_
              refine J.seq ?_
              refine J.region ?_
              refine JL.go trivial (RX.build (pv := []) (res := tv 0 0 none 0 0) rfl (by kernel_rfl)) ?_
              refine JL.does trivial (EX.storeAgg H rfl rfl (i := 1) (vs := tv 0 0 none 0 0) (l' := tv 0 0 none 0 0) rfl tv_cell (by simp) sz25 rfl rfl) ?_
              rintro _ w H
              refine JL.go trivial (RX.assign) ?_
              refine JL.go trivial (RX.assign) ?_
              refine JL.nil ?_
              first
              | refine J.retctt (x := Value.bool _) Tryd.func34 rfl H rfl (i := 0) (vs := tv 0 0 none 0 0) rfl rfl ag25 rfl rfl ?_
              | refine J.retctt (x := Value.bool _) Tryd.func34 rfl H rfl (i := 1) (vs := tv 0 0 none 0 0) rfl rfl ag25 rfl rfl ?_
              | refine J.retctt (x := Value.bool _) Tryd.func34 rfl H rfl (i := 2) (vs := tv 0 0 none 0 0) rfl rfl ag25 rfl rfl ?_
              | refine J.retctt (x := Value.bool _) Tryd.func34 rfl H rfl (i := 1) (vs := tv q (n : Nat) none 0 0) rfl rfl ag25 rfl rfl ?_
              first
              | exact ⟨_, rfl, 0, 0, false, false, p, c, xs, sl, ss, st, [], rfl, ho, hk, hr, H.drop, .inl ⟨rfl, rfl⟩⟩
              | (by_cases hz : n = 0
                 · subst hz
                   rw [if_pos rfl] at hnp
                   refine ⟨_, rfl, q, 0, true, false, p, c, xs, sl, ss, st, r3, rfl, ho, hk, hr3, (H.pull 1 rfl).drop, .inl ⟨rfl, ?_⟩⟩
                   rcases hq with ⟨_, e⟩ | ⟨_, e⟩
                   · rw [begS, if_pos e, hnp]
                   · rw [begS, if_neg (by omega), if_pos e, hnp]
                 · rw [if_neg hz] at hnp
                   refine ⟨_, rfl, q, n, true, _, p, c, xs, sl, ss, st, r3, rfl, ho, hk, hr3, (H.pull 1 rfl).drop, .inr (.inl ⟨rfl, decide_eq_true (by omega), ?_, rfl⟩)⟩
                   rcases hq with ⟨rfl, e⟩ | ⟨rfl, e⟩
                   · rw [begS, if_pos e, hnp]
                   · rw [begS, if_neg (by omega), if_pos e, hnp])
              | (refine ⟨_, rfl, 0, 0, false, true, p2, c2, _, sl2, ss, st ++ [.node 3 0 []], r2, rfl, by rw [List.length_append]; exact ho2, hk2, hr2, by rw [List.length_append]; exact ((H.drop.pull 1 rfl).drop), .inr (.inr ⟨rfl, rfl, _, ?_, rfl, Nat.zero_le _⟩)⟩
                 rw [begS, if_neg (by omega), if_neg (by omega), if_pos (by omega)])
              | (refine ⟨_, rfl, 0, 0, false, false, p, c, xs, sl, ss, st, r3, rfl, ho, hk, hr3, (H.pull 1 rfl).drop, .inl ⟨rfl, ?_⟩⟩
                 rw [if_pos (by omega)] at hnp
                 rw [begS, if_neg (by omega), if_neg (by omega), if_neg (by omega), if_pos (by omega), hnp])
              | (obtain rfl : bk = false := by simpa using hno
                 refine ⟨_, rfl, 0, 0, false, false, p, c, xs, sl, ss, st, r4, rfl, ho, hk, hr4, (H.pull 1 rfl).drop, .inl ⟨rfl, ?_⟩⟩
                 rw [if_neg (by omega)] at hnp
                 rw [begS, if_neg (by omega), if_neg (by omega), if_neg (by omega), if_pos (by omega), hnp]
                 dsimp only
                 rw [htk]
                 rfl)
              | (refine ⟨_, rfl, 0, 0, false, false, p, c, xs, sl, ss, st, ch :: r2, rfl, ho, hk, hr, H.drop, .inl ⟨rfl, ?_⟩⟩
                 rw [begS, if_neg (by omega), if_neg (by omega), if_neg (by omega), if_neg (by omega)])
            · skip
              first | have hn0p := of_decide_eq_false hn0 | skip
              refine JL.go ⟨_, rfl, hn0⟩ (RX.movev (v := Value.pointer _) rfl) ?_
              refine JL.does ⟨_, rfl, hn0⟩ (EX.call rfl cl49 rfl ((ris_b hr3 hs H (t := [40]) (by decide)))) ?_
              rintro _ w ⟨bk, r4, htk, hr4, rfl, H⟩
              refine JL.go ⟨_, rfl, hn0⟩ (RX.not rfl) ?_
              refine JL.go trivial (RX.pick_f rfl hn0) ?_
              refine JL.nil ?_
              refine J.cond rfl (fun hno => ?_) (fun hno => ?_)
              · skip
                refine J.seq ?_
                refine J.region ?_
                refine JL.go trivial (RX.build (pv := []) (res := tv 0 0 none 0 0) rfl (by kernel_rfl)) ?_
                refine JL.does trivial (EX.storeAgg H rfl rfl (i := 1) (vs := tv 0 0 none 0 0) (l' := tv 0 0 none 0 0) rfl tv_cell (by simp) sz25 rfl rfl) ?_
                rintro _ w H
                refine JL.go trivial (RX.assign) ?_
                refine JL.go trivial (RX.assign) ?_
                refine JL.nil ?_
                first
                | refine J.retctt (x := Value.bool _) Tryd.func34 rfl H rfl (i := 0) (vs := tv 0 0 none 0 0) rfl rfl ag25 rfl rfl ?_
                | refine J.retctt (x := Value.bool _) Tryd.func34 rfl H rfl (i := 1) (vs := tv 0 0 none 0 0) rfl rfl ag25 rfl rfl ?_
                | refine J.retctt (x := Value.bool _) Tryd.func34 rfl H rfl (i := 2) (vs := tv 0 0 none 0 0) rfl rfl ag25 rfl rfl ?_
                | refine J.retctt (x := Value.bool _) Tryd.func34 rfl H rfl (i := 1) (vs := tv q (n : Nat) none 0 0) rfl rfl ag25 rfl rfl ?_
                first
                | exact ⟨_, rfl, 0, 0, false, false, p, c, xs, sl, ss, st, [], rfl, ho, hk, hr, H.drop, .inl ⟨rfl, rfl⟩⟩
                | (by_cases hz : n = 0
                   · subst hz
                     rw [if_pos rfl] at hnp
                     refine ⟨_, rfl, q, 0, true, false, p, c, xs, sl, ss, st, r3, rfl, ho, hk, hr3, (H.pull 1 rfl).drop, .inl ⟨rfl, ?_⟩⟩
                     rcases hq with ⟨_, e⟩ | ⟨_, e⟩
                     · rw [begS, if_pos e, hnp]
                     · rw [begS, if_neg (by omega), if_pos e, hnp]
                   · rw [if_neg hz] at hnp
                     refine ⟨_, rfl, q, n, true, _, p, c, xs, sl, ss, st, r3, rfl, ho, hk, hr3, (H.pull 1 rfl).drop, .inr (.inl ⟨rfl, decide_eq_true (by omega), ?_, rfl⟩)⟩
                     rcases hq with ⟨rfl, e⟩ | ⟨rfl, e⟩
                     · rw [begS, if_pos e, hnp]
                     · rw [begS, if_neg (by omega), if_pos e, hnp])
                | (refine ⟨_, rfl, 0, 0, false, true, p2, c2, _, sl2, ss, st ++ [.node 3 0 []], r2, rfl, by rw [List.length_append]; exact ho2, hk2, hr2, by rw [List.length_append]; exact ((H.drop.pull 1 rfl).drop), .inr (.inr ⟨rfl, rfl, _, ?_, rfl, Nat.zero_le _⟩)⟩
                   rw [begS, if_neg (by omega), if_neg (by omega), if_pos (by omega)])
                | (refine ⟨_, rfl, 0, 0, false, false, p, c, xs, sl, ss, st, r3, rfl, ho, hk, hr3, (H.pull 1 rfl).drop, .inl ⟨rfl, ?_⟩⟩
                   rw [if_pos (by omega)] at hnp
                   rw [begS, if_neg (by omega), if_neg (by omega), if_neg (by omega), if_pos (by omega), hnp])
                | (obtain rfl : bk = false := by simpa using hno
                   refine ⟨_, rfl, 0, 0, false, false, p, c, xs, sl, ss, st, r4, rfl, ho, hk, hr4, (H.pull 1 rfl).drop, .inl ⟨rfl, ?_⟩⟩
                   rw [if_neg (by omega)] at hnp
                   rw [begS, if_neg (by omega), if_neg (by omega), if_neg (by omega), if_pos (by omega), hnp]
                   dsimp only
                   rw [htk]
                   rfl)
                | (refine ⟨_, rfl, 0, 0, false, false, p, c, xs, sl, ss, st, ch :: r2, rfl, ho, hk, hr, H.drop, .inl ⟨rfl, ?_⟩⟩
                   rw [begS, if_neg (by omega), if_neg (by omega), if_neg (by omega), if_neg (by omega)])
              · skip
                refine J.skip ?_
                refine J.seq ?_
                refine J.region ?_
                refine JL.go trivial (RX.movev (v := Value.pointer _) rfl) ?_
                refine JL.go trivial (RX.movev (v := Value.pointer _) rfl) ?_
                refine JL.go trivial (RX.nilCheck rfl) ?_
                refine JL.go trivial (RX.fieldAddr rfl fo57_2 rfl) ?_
                refine JL.go trivial (RX.load H rfl (i := 0) (v := .slice p st.length c) rfl rfl one55) ?_
                refine JL.go trivial (RX.movev (v := Value.int _ _) rfl) ?_
                refine JL.go trivial (RX.build (pv := [(0, .int .i64 4), (1, .int .i64 (n : Nat))]) (res := tv 4 (n : Nat) none 0 0) rfl (by kernel_rfl)) ?_
                refine JL.go trivial (RX.build (pv := [(0, .agg (tv 4 (n : Nat) none 0 0).toArray)]) (res := tv 4 (n : Nat) none 0 0) rfl (by kernel_rfl)) ?_
                refine JL.does trivial (EX.buildSlice (pv := [(0, .agg (tv 4 (n : Nat) none 0 0).toArray)]) (l := tv 4 (n : Nat) none 0 0) (e := 82) H rfl (by kernel_rfl)) ?_
                rintro _ w ⟨bb, rfl, H⟩
                refine JL.does trivial (EX.append (ys := tv 4 (n : Nat) none 0 0) (L' := fun s' => [(bb, cel (tv 4 (n : Nat) none 0 0) 82)] :: PR bp s r4 (.slice p st.length c) :: [(b2, cel (tv 0 0 none 0 0) 25)] :: s' :: ss :: F) H elR rfl rfl (i := 3) rfl ho (SlAt.here rfl) rfl tv_cell (by decide) (by omega) (by omega) (fun _ => rfl)) ?_
                rintro _ w ⟨p2, c2, sl2, rfl, ho2, H⟩
                have hk2 := hk.snoc (Tr.Own.leaf (k := 4) (n := (n : Nat)))
                rw [List.append_nil] at hk2
                refine JL.go trivial (RX.nilCheck rfl) ?_
                refine JL.go trivial (RX.fieldAddr rfl fo57_2 rfl) ?_
                refine JL.does trivial (EX.store (v := Value.slice _ _ _) H rfl rfl (i := 1) (l' := [.string ⟨s.toArray⟩, .int .i64 (posn s (r4) : Nat), .slice p2 (st.length + 1) c2]) rfl rfl (by simp) sz55 rfl rfl) ?_
                rintro _ w H
                refine JL.nil ?_
                refine J.seq ?_
                refine J.region ?_
                refine JL.go trivial (RX.build (pv := []) (res := tv 0 0 none 0 0) rfl (by kernel_rfl)) ?_
                refine JL.does trivial (EX.storeAgg H rfl rfl (i := 2) (vs := tv 0 0 none 0 0) (l' := tv 0 0 none 0 0) rfl tv_cell (by simp) sz25 rfl rfl) ?_
                rintro _ w H
                refine JL.go trivial (RX.assign) ?_
                refine JL.go trivial (RX.assign) ?_
                refine JL.nil ?_
                first
                | refine J.retctt (x := Value.bool _) Tryd.func34 rfl H rfl (i := 0) (vs := tv 0 0 none 0 0) rfl rfl ag25 rfl rfl ?_
                | refine J.retctt (x := Value.bool _) Tryd.func34 rfl H rfl (i := 1) (vs := tv 0 0 none 0 0) rfl rfl ag25 rfl rfl ?_
                | refine J.retctt (x := Value.bool _) Tryd.func34 rfl H rfl (i := 2) (vs := tv 0 0 none 0 0) rfl rfl ag25 rfl rfl ?_
                | refine J.retctt (x := Value.bool _) Tryd.func34 rfl H rfl (i := 1) (vs := tv q (n : Nat) none 0 0) rfl rfl ag25 rfl rfl ?_
                obtain rfl : bk = true := by simpa using hno
                refine ⟨_, rfl, 0, 0, false, true, p2, c2, _, sl2, ss, st ++ [.node 4 (n : Nat) []], r4, rfl, by rw [List.length_append]; exact ho2, hk2, hr4, by rw [List.length_append]; exact ((H.drop.pull 1 rfl).drop), .inr (.inr ⟨rfl, rfl, _, ?_, rfl, Nat.zero_le _⟩)⟩
                rw [if_neg (by omega)] at hnp
                rw [begS, if_neg (by omega), if_neg (by omega), if_neg (by omega), if_pos (by omega), hnp]
                dsimp only
                rw [htk]
                rfl
          · skip
            refine J.skip ?_
            refine J.inBlock ?_
            refine J.seq ?_
            refine J.region ?_
            refine JL.go trivial (RX.build (pv := []) (res := tv 0 0 none 0 0) rfl (by kernel_rfl)) ?_
            refine JL.does trivial (EX.storeAgg H rfl rfl (i := 0) (vs := tv 0 0 none 0 0) (l' := tv 0 0 none 0 0) rfl tv_cell (by simp) sz25 rfl rfl) ?_
            rintro _ w H
            refine JL.go trivial (RX.assign) ?_
            refine JL.go trivial (RX.assign) ?_
            refine JL.nil ?_
            first
            | refine J.retctt (x := Value.bool _) Tryd.func34 rfl H rfl (i := 0) (vs := tv 0 0 none 0 0) rfl rfl ag25 rfl rfl ?_
            | refine J.retctt (x := Value.bool _) Tryd.func34 rfl H rfl (i := 1) (vs := tv 0 0 none 0 0) rfl rfl ag25 rfl rfl ?_
            | refine J.retctt (x := Value.bool _) Tryd.func34 rfl H rfl (i := 2) (vs := tv 0 0 none 0 0) rfl rfl ag25 rfl rfl ?_
            | refine J.retctt (x := Value.bool _) Tryd.func34 rfl H rfl (i := 1) (vs := tv q (n : Nat) none 0 0) rfl rfl ag25 rfl rfl ?_
            first
            | exact ⟨_, rfl, 0, 0, false, false, p, c, xs, sl, ss, st, [], rfl, ho, hk, hr, H.drop, .inl ⟨rfl, rfl⟩⟩
            | (by_cases hz : n = 0
               · subst hz
                 rw [if_pos rfl] at hnp
                 refine ⟨_, rfl, q, 0, true, false, p, c, xs, sl, ss, st, r3, rfl, ho, hk, hr3, (H.pull 1 rfl).drop, .inl ⟨rfl, ?_⟩⟩
                 rcases hq with ⟨_, e⟩ | ⟨_, e⟩
                 · rw [begS, if_pos e, hnp]
                 · rw [begS, if_neg (by omega), if_pos e, hnp]
               · rw [if_neg hz] at hnp
                 refine ⟨_, rfl, q, n, true, _, p, c, xs, sl, ss, st, r3, rfl, ho, hk, hr3, (H.pull 1 rfl).drop, .inr (.inl ⟨rfl, decide_eq_true (by omega), ?_, rfl⟩)⟩
                 rcases hq with ⟨rfl, e⟩ | ⟨rfl, e⟩
                 · rw [begS, if_pos e, hnp]
                 · rw [begS, if_neg (by omega), if_pos e, hnp])
            | (refine ⟨_, rfl, 0, 0, false, true, p2, c2, _, sl2, ss, st ++ [.node 3 0 []], r2, rfl, by rw [List.length_append]; exact ho2, hk2, hr2, by rw [List.length_append]; exact ((H.drop.pull 1 rfl).drop), .inr (.inr ⟨rfl, rfl, _, ?_, rfl, Nat.zero_le _⟩)⟩
               rw [begS, if_neg (by omega), if_neg (by omega), if_pos (by omega)])
            | (refine ⟨_, rfl, 0, 0, false, false, p, c, xs, sl, ss, st, r3, rfl, ho, hk, hr3, (H.pull 1 rfl).drop, .inl ⟨rfl, ?_⟩⟩
               rw [if_pos (by omega)] at hnp
               rw [begS, if_neg (by omega), if_neg (by omega), if_neg (by omega), if_pos (by omega), hnp])
            | (obtain rfl : bk = false := by simpa using hno
               refine ⟨_, rfl, 0, 0, false, false, p, c, xs, sl, ss, st, r4, rfl, ho, hk, hr4, (H.pull 1 rfl).drop, .inl ⟨rfl, ?_⟩⟩
               rw [if_neg (by omega)] at hnp
               rw [begS, if_neg (by omega), if_neg (by omega), if_neg (by omega), if_pos (by omega), hnp]
               dsimp only
               rw [htk]
               rfl)
            | (refine ⟨_, rfl, 0, 0, false, false, p, c, xs, sl, ss, st, ch :: r2, rfl, ho, hk, hr, H.drop, .inl ⟨rfl, ?_⟩⟩
               rw [begS, if_neg (by omega), if_neg (by omega), if_neg (by omega), if_neg (by omega)])
end Go.Proofs.YtinbeaaloailnaaDoor
