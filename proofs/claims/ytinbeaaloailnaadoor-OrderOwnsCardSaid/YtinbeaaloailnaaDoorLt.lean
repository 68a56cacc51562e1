/- The reference's texts. -/
import Derived.Test.YtinbeaaloailnaaDoorLr
import Derived.Test.YtinbeaaloailnaaDoorBk
import Derived.Test.YtinbeaaloailnaaDoorOu
import Derived.Test.YtinbeaaloailnaaDoorRt
namespace Go.Proofs.YtinbeaaloailnaaDoor
open Go Go.Eng
set_option maxRecDepth 100000
set_option linter.unusedVariables false
set_option linter.unusedSimpArgs false
theorem cl43 : callable Tryd.prog 43 = true := by kernel_rfl
theorem cl54 : callable Tryd.prog 54 = true := by kernel_rfl

def decT (m : Nat) : List UInt8 := if m = 0 then [] else Lib.decDigits m
theorem decT_step {m : Nat} (h : m ≠ 0) : decT m = decT (m / 10) ++ [UInt8.ofNat (48 + m % 10)] := by
  unfold decT
  rw [if_neg h, dec_unfold]
  split
  · rename_i hm
    rw [if_pos (by omega), show 48 + m % 10 = 48 + m by omega]; rfl
  · rename_i hm
    rw [if_neg (by omega)]
section
variable {P : Program} {w : World} {ρ : Operand → Value} {d : Option Tmp} {x y : Operand} {ty : TypeId} {pos : String} {af : Array Edge} {g : Option (Nat × Bool)}
theorem ba_app (a b : List UInt8) : (⟨a.toArray⟩ : ByteArray) ++ ⟨b.toArray⟩ = ⟨(a ++ b).toArray⟩ := by
  apply ByteArray.ext; simp
theorem RX.strL {t t' : TypeId} {a b r : List UInt8} (hx : ρ x = .string ⟨a.toArray⟩) (hy : ρ y = .string ⟨b.toArray⟩) (hr : a ++ b = r) (hl : r.length ≤ 9223372036854775807) : Runs P ρ ⟨d, .binOp .add t x y t', ty, pos, af, g⟩ w (.string ⟨r.toArray⟩) := by
  subst hr
  rw [← ba_app]
  refine RX.str_add hx hy ?_
  simp only [List.length_append] at hl
  simp [ByteArray.size]
  omega
end
def RTxC (t : Tr) : Prop := t.parts ≤ 5000 → len t ≠ 0 → ∀ (w0 w : World) (F : List Seg) (vs : List Value), Hp w0 w F → t.Is F vs → Ret Tryd.prog 43 [.agg vs.toArray] w fun v w' => v = .string ⟨(textT t).toArray⟩ ∧ Hp w0 w' F

theorem rdig_b {w0 w : World} {F : List Seg} (H : Hp w0 w F) {m : Nat} (h1 : 1 ≤ m) (hm : m ≤ 1000000) : Ret Tryd.prog 54 [.int .i64 (m : Nat)] w fun v w' => v = .string ⟨(Lib.decDigits m).toArray⟩ ∧ Hp w0 w' F := by
  refine Calls.of_J (n := 17) Tryd.func54 rfl rfl rfl ?_
  refine J.seq ?_
  refine J.region ?_
  refine JL.go trivial (RX.assign) ?_
  refine JL.nil ?_
  refine J.seq ?_
  refine J.region ?_
  refine JL.go trivial (RX.assign) ?_
  refine JL.nil ?_
  refine J.seq ?_
  refine J.block ?_
  refine J.loop (ι := Nat × List UInt8) (S := fun z => [(0, .int .i64 (z.1 : Nat)), (3, .string ⟨z.2.toArray⟩)]) (Φ := fun z w => z.1 ≤ 1000000 ∧ decT m = decT z.1 ++ z.2 ∧ Hp w0 w F) (μ := fun z => z.1) (C := []) (m, []) trivial ⟨rfl, rfl, trivial⟩ ?_ ?_
  · exact ⟨hm, by simp, H⟩
  clear H
  rintro ⟨u, acc⟩ ρ w ⟨hu, hd, H⟩ IH
  simp only at hu hd H
  dsimp only
  refine J.seq ?_
  refine J.seq ?_
  refine J.region ?_
  refine JL.go trivial (RX.movev (v := Value.int _ _) rfl) ?_
  refine JL.go trivial (RX.gt rfl rfl) ?_
  refine JL.nil ?_
  refine J.cond_d rfl (fun hpos => ?_) (fun hpos => ?_)
  · skip
    have hne : u ≠ 0 := by omega
    have hst := decT_step hne
    have hln := congrArg List.length hd
    rw [hst, List.append_assoc] at hd
    have hln2 : acc.length ≤ (decT m).length := by rw [hln, List.length_append]; omega
    have hln3 : (decT m).length ≤ 20 := by
      unfold decT
      split
      · simp
      · have := dec_short 6 m (by omega); omega
    refine J.skip ?_
    refine J.seq ?_
    refine J.block ?_
    refine J.region ?_
    refine JL.go trivial (RX.movev (v := Value.int _ _) rfl) ?_
    refine JL.go trivial (RX.rem rfl rfl (by decide) (r := ((u % 10 : Nat) : Int)) (by rw [Int.tmod_eq_emod_of_nonneg (by omega)]; omega)) ?_
    refine JL.go trivial (RX.add rfl rfl (w_i64 (r := ((48 + u % 10 : Nat) : Int)) (by omega) (by omega) (by omega))) ?_
    refine JL.go trivial (RX.conv rfl (by rw [ki3]; rfl) ki5 (w_u8 (r := ((48 + u % 10 : Nat) : Int)) rfl (by omega) (by omega))) ?_
    refine JL.does trivial (EX.buildSlice1 (v := Value.int _ _) H elB rfl rfl) ?_
    rintro _ w ⟨bd, rfl, H⟩
    refine JL.go trivial (RX.b2s (l := [UInt8.ofNat (48 + u % 10)]) H rfl (by rw [List.map_cons, List.map_nil, dig_n]; exact SlAt.here rfl) sl64 ud5 ud9) ?_
    refine JL.go trivial (RX.movev (v := Value.string _) rfl) ?_
    refine JL.go trivial (RX.strL (a := [UInt8.ofNat (48 + u % 10)]) (b := acc) rfl rfl rfl (by simp only [List.length_append, List.length_cons, List.length_nil]; omega)) ?_
    refine JL.go trivial (RX.assignv (v := Value.string _) rfl) ?_
    refine JL.nil ?_
    replace H := H.drop
    refine J.inBlock ?_
    refine J.region ?_
    refine JL.go trivial (RX.movev (v := Value.int _ _) rfl) ?_
    refine JL.go trivial (RX.quo rfl rfl (by decide) (w_i64 (r := ((u / 10 : Nat) : Int)) (by rw [Int.tdiv_eq_ediv_of_nonneg (by omega)]; omega) (by omega) (by omega))) ?_
    refine JL.go trivial (RX.assignv (v := Value.int _ _) rfl) ?_
    refine JL.nil ?_
    exact IH (u / 10, [UInt8.ofNat (48 + u % 10)] ++ acc) _ _ (by simp only; omega) trivial ⟨rfl, rfl, trivial⟩ ⟨by simp only; omega, hd, H⟩
  · skip
    have hu0 : u = 0 := by omega
    subst hu0
    refine J.exit rfl ?_
    refine J.seq ?_
    refine J.region ?_
    refine JL.go trivial (RX.movev (v := Value.string _) rfl) ?_
    refine JL.go trivial (RX.assignv (v := Value.string _) rfl) ?_
    refine JL.nil ?_
    refine J.ret1 (v := Value.string _) Tryd.func54 rfl rfl ?_
    exact ⟨_, rfl, by rw [show Lib.decDigits m = decT m by unfold decT; rw [if_neg (by omega)], hd]; rfl, H⟩
theorem rtext_step {k n : Int} {ks : List Tr} (ih : ∀ t, t.parts < (Tr.node k n ks).parts → RTxC t) (hp : (Tr.node k n ks).parts ≤ 5000) (hl : len (Tr.node k n ks) ≠ 0) {w0 w : World} {F : List Seg} {p : Option Addr} {c : Nat} {xs : List Value} (H : Hp w0 w F) (hs : SlAt F p xs) (hk : KidsIs F ks xs) : Ret Tryd.prog 43 [.agg (tv k n p ks.length c).toArray] w fun v w' => v = .string ⟨(textT (.node k n ks)).toArray⟩ ∧ Hp w0 w' F := by
  refine Calls.of_J (n := 45) Tryd.func43 rfl rfl rfl ?_
  refine J.seq ?_
  have hls := len_shape hl
  have hlr := len_range _ (Tr.node k n ks) (Nat.le_refl _)
  refine J.region ?_
  refine JL.does trivial (EX.box (v := Value.agg _) H rfl rfl) ?_
  rintro _ w ⟨b1, rfl, H⟩
  refine JL.go trivial (RX.assign) ?_
  refine JL.nil ?_
  refine J.seq ?_
  refine J.seq ?_
  refine J.region ?_
  refine JL.go trivial (RX.fieldAddr rfl fo25_0 rfl) ?_
  refine JL.go trivial (RX.load H rfl (i := 0) (v := .int .i64 k) rfl rfl one3) ?_
  refine JL.nil ?_
  refine J.block ?_
  refine J.seq ?_
  refine J.region ?_
  refine JL.go trivial (RX.eq rfl rfl) ?_
  refine JL.go trivial (RX.assignv (v := Value.bool _) rfl) ?_
  refine JL.nil ?_
  refine J.cond_d rfl (fun hk1 => ?_) (fun hk1 => ?_)
  · skip
    obtain ⟨he, hn1⟩ : len (.node k n ks) = n ∧ 1 ≤ n := by
      rcases hls with ⟨_, _, h⟩ | ⟨h, _⟩ | ⟨h, _⟩
      · exact h
      · omega
      · omega
    obtain ⟨m, rfl⟩ : ∃ m : Nat, n = m := ⟨n.toNat, by omega⟩
    have hdl : (Lib.decDigits m).length ≤ 20 := by have := dec_short 6 m (by omega); omega
    refine J.seq ?_
    refine J.region ?_
    refine JL.go trivial (RX.fieldAddr rfl fo25_1 rfl) ?_
    refine JL.go trivial (RX.load H rfl (i := 0) (v := .int .i64 (m : Nat)) rfl rfl one3) ?_
    refine JL.does trivial (EX.call rfl cl54 rfl ((rdig_b H (m := m) (by omega) (by omega)))) ?_
    rintro _ w ⟨rfl, H⟩
    refine JL.go trivial (RX.strL (a := [100]) (b := Lib.decDigits m) rfl rfl rfl (by simp only [List.length_append, List.length_cons, List.length_nil]; omega)) ?_
    refine JL.go trivial (RX.assignv (v := Value.string _) rfl) ?_
    refine JL.nil ?_
    refine J.ret1 (v := Value.string _) Tryd.func43 rfl rfl ?_
    obtain rfl : k = 1 := by omega
    exact ⟨_, rfl, by rw [text_d, itoa_nat]; rfl, H.drop⟩
  · skip
    refine J.seq ?_
    refine J.region ?_
    refine JL.go trivial (RX.eq rfl rfl) ?_
    refine JL.go trivial (RX.assignv (v := Value.bool _) rfl) ?_
    refine JL.nil ?_
    refine J.cond_d rfl (fun hk2 => ?_) (fun hk2 => ?_)
    · skip
      obtain ⟨he, hn1⟩ : len (.node k n ks) = n ∧ 1 ≤ n := by
        rcases hls with ⟨_, _, h⟩ | ⟨h, _⟩ | ⟨h, _⟩
        · exact h
        · omega
        · omega
      obtain ⟨m, rfl⟩ : ∃ m : Nat, n = m := ⟨n.toNat, by omega⟩
      have hdl : (Lib.decDigits m).length ≤ 20 := by have := dec_short 6 m (by omega); omega
      refine J.seq ?_
      refine J.region ?_
      refine JL.go trivial (RX.fieldAddr rfl fo25_1 rfl) ?_
      refine JL.go trivial (RX.load H rfl (i := 0) (v := .int .i64 (m : Nat)) rfl rfl one3) ?_
      refine JL.does trivial (EX.call rfl cl54 rfl ((rdig_b H (m := m) (by omega) (by omega)))) ?_
      rintro _ w ⟨rfl, H⟩
      refine JL.go trivial (RX.strL (a := [102]) (b := Lib.decDigits m) rfl rfl rfl (by simp only [List.length_append, List.length_cons, List.length_nil]; omega)) ?_
      refine JL.go trivial (RX.assignv (v := Value.string _) rfl) ?_
      refine JL.nil ?_
      refine J.ret1 (v := Value.string _) Tryd.func43 rfl rfl ?_
      obtain rfl : k = 2 := by omega
      exact ⟨_, rfl, by rw [text_f, itoa_nat]; rfl, H.drop⟩
    · skip
      refine J.seq ?_
      refine J.region ?_
      refine JL.go trivial (RX.eq rfl rfl) ?_
      refine JL.go trivial (RX.assignv (v := Value.bool _) rfl) ?_
      refine JL.nil ?_
      refine J.cond_d rfl (fun hk3 => ?_) (fun hk3 => ?_)
      · skip
        obtain ⟨a, b, hab, ha2, hb2⟩ : ∃ a b, ks = [a, b] ∧ 2 ≤ len a ∧ 2 ≤ len b := by
          rcases hls with ⟨h, _⟩ | ⟨_, a, b, h, h2, h3, _⟩ | ⟨h, _⟩
          · omega
          · exact ⟨a, b, h, h2, h3⟩
          · omega
        subst hab
        obtain ⟨va, hva, hia⟩ := hk.get (i := 0) (t := a) rfl
        obtain ⟨vb, hvb, hib⟩ := hk.get (i := 1) (t := b) rfl
        have hpa := kid_lt (k := k) (n := n) (ks := [a, b]) (i := 0) (t := a) rfl
        have hpb := kid_lt (k := k) (n := n) (ks := [a, b]) (i := 1) (t := b) rfl
        have hta := text_len _ a (Nat.le_refl _) (by omega)
        have htb := text_len _ b (Nat.le_refl _) (by omega)
        have hxl := hk.len
        have hl2 : [a, b].length = 2 := rfl
        obtain ⟨pb, po, rfl⟩ := spot_some hs (by omega)
        refine J.seq ?_
        refine J.quietH H hmix (by kernel_rfl) ?_
        refine JQ.go trivial (fun w H => RX.fieldAddr rfl fo25_2 rfl) ?_
        refine JQ.go trivial (fun w H => RX.load H rfl (i := 0) (v := .slice (some ⟨pb, po, none⟩) [a, b].length c) rfl rfl one23) ?_
        refine JQ.go trivial (fun w H => RX.indexAddr rfl rfl sl23 (by omega) (by omega) (o' := po + 0 * 3) (by omega)) ?_
        refine JQ.go trivial (fun w H => RX.loadAggS H hs.cons rfl (j := 0 * 3) (by omega) (vs := va) hva ag25) ?_
        refine JQ.call trivial (fun w H => run_callq rfl cl43 rfl) (fun w H => (ih a hpa (by omega) (by omega) _ _ _ _ H hia.cons)) ?_
        refine JQ.go trivial (fun w H => RX.strL (a := [40]) (b := textT a) rfl rfl rfl (by simp only [List.length_append, List.length_cons, List.length_nil]; omega)) ?_
        refine JQ.go trivial (fun w H => RX.strL (a := [40] ++ textT a) (b := [32, 120, 32]) rfl rfl rfl (by simp only [List.length_append, List.length_cons, List.length_nil]; omega)) ?_
        refine JQ.go trivial (fun w H => RX.fieldAddr rfl fo25_2 rfl) ?_
        refine JQ.go trivial (fun w H => RX.load H rfl (i := 0) (v := .slice (some ⟨pb, po, none⟩) [a, b].length c) rfl rfl one23) ?_
        refine JQ.go trivial (fun w H => RX.indexAddr rfl rfl sl23 (by omega) (by omega) (o' := po + 1 * 3) (by omega)) ?_
        refine JQ.go trivial (fun w H => RX.loadAggS H hs.cons rfl (j := 1 * 3) (by omega) (vs := vb) hvb ag25) ?_
        refine JQ.call trivial (fun w H => run_callq rfl cl43 rfl) (fun w H => (ih b hpb (by omega) (by omega) _ _ _ _ H hib.cons)) ?_
        refine JQ.go trivial (fun w H => RX.strL (a := [40] ++ textT a ++ [32, 120, 32]) (b := textT b) rfl rfl rfl (by simp only [List.length_append, List.length_cons, List.length_nil]; omega)) ?_
        refine JQ.go trivial (fun w H => RX.strL (a := [40] ++ textT a ++ [32, 120, 32] ++ textT b) (b := [41]) rfl rfl rfl (by simp only [List.length_append, List.length_cons, List.length_nil]; omega)) ?_
        refine JQ.go trivial (fun w H => RX.assignv (v := Value.string _) rfl) ?_
        refine JQ.nil fun w H => ?_
        refine J.ret1 (v := Value.string _) Tryd.func43 rfl rfl ?_
        obtain rfl : k = 3 := by omega
        exact ⟨_, rfl, by rw [text_x]; simp, H.drop⟩
      · skip
        obtain ⟨hk4, hn2, a, hab, he, hge⟩ : k = 4 ∧ 2 ≤ n ∧ ∃ a, ks = [a] ∧ len (.node k n ks) = n ∧ 2 * n - 1 ≤ len a := by
          rcases hls with ⟨h, _⟩ | ⟨h, _⟩ | h
          · omega
          · omega
          · exact h
        subst hab
        obtain ⟨va, hva, hia⟩ := hk.get (i := 0) (t := a) rfl
        have hpa := kid_lt (k := k) (n := n) (ks := [a]) (i := 0) (t := a) rfl
        have hta := text_len _ a (Nat.le_refl _) (by omega)
        have hxl := hk.len
        have hl1 : [a].length = 1 := rfl
        obtain ⟨pb, po, rfl⟩ := spot_some hs (by omega)
        obtain ⟨m, rfl⟩ : ∃ m : Nat, n = m := ⟨n.toNat, by omega⟩
        have hdl : (Lib.decDigits m).length ≤ 20 := by have := dec_short 6 m (by omega); omega
        refine J.skip ?_
        refine J.inBlock ?_
        refine J.seq ?_
        refine J.quietH H hmix (by kernel_rfl) ?_
        refine JQ.go trivial (fun w H => RX.fieldAddr rfl fo25_1 rfl) ?_
        refine JQ.go trivial (fun w H => RX.load H rfl (i := 0) (v := .int .i64 (m : Nat)) rfl rfl one3) ?_
        refine JQ.call trivial (fun w H => run_callq rfl cl54 rfl) (fun w H => (rdig_b H (m := m) (by omega) (by omega))) ?_
        refine JQ.go trivial (fun w H => RX.strL (a := [98]) (b := Lib.decDigits m) rfl rfl rfl (by simp only [List.length_append, List.length_cons, List.length_nil]; omega)) ?_
        refine JQ.go trivial (fun w H => RX.strL (a := [98] ++ Lib.decDigits m) (b := [40]) rfl rfl rfl (by simp only [List.length_append, List.length_cons, List.length_nil]; omega)) ?_
        refine JQ.go trivial (fun w H => RX.fieldAddr rfl fo25_2 rfl) ?_
        refine JQ.go trivial (fun w H => RX.load H rfl (i := 0) (v := .slice (some ⟨pb, po, none⟩) [a].length c) rfl rfl one23) ?_
        refine JQ.go trivial (fun w H => RX.indexAddr rfl rfl sl23 (by omega) (by omega) (o' := po + 0 * 3) (by omega)) ?_
        refine JQ.go trivial (fun w H => RX.loadAggS H hs.cons rfl (j := 0 * 3) (by omega) (vs := va) hva ag25) ?_
        refine JQ.call trivial (fun w H => run_callq rfl cl43 rfl) (fun w H => (ih a hpa (by omega) (by omega) _ _ _ _ H hia.cons)) ?_
        refine JQ.go trivial (fun w H => RX.strL (a := [98] ++ Lib.decDigits m ++ [40]) (b := textT a) rfl rfl rfl (by simp only [List.length_append, List.length_cons, List.length_nil]; omega)) ?_
        refine JQ.go trivial (fun w H => RX.strL (a := [98] ++ Lib.decDigits m ++ [40] ++ textT a) (b := [41]) rfl rfl rfl (by simp only [List.length_append, List.length_cons, List.length_nil]; omega)) ?_
        refine JQ.go trivial (fun w H => RX.assignv (v := Value.string _) rfl) ?_
        refine JQ.nil fun w H => ?_
        refine J.ret1 (v := Value.string _) Tryd.func43 rfl rfl ?_
        subst hk4
        exact ⟨_, rfl, by rw [text_b4, itoa_nat]; simp, H.drop⟩
theorem rtext_b : ∀ t, RTxC t := tr_ind fun t ih hp hl w0 w F vs H ht => by
  obtain ⟨k, n, ks⟩ := t
  rw [Tr.Is] at ht
  obtain ⟨p, c, xs, rfl, hs, hk⟩ := ht
  exact rtext_step ih hp hl H hs hk
theorem rText_b {w0 w : World} {F : List Seg} (H : Hp w0 w F) {t : Tr} {vs : List Value} (ht : t.Is F vs) (hp : t.parts ≤ 5000) : Ret Tryd.prog 26 [.agg vs.toArray] w fun v w' => v = .tuple #[.string ⟨(textO t).toArray⟩, .int .i64 (c8 t : Nat)] ∧ Hp w0 w' F := by
  refine Calls.of_J (n := 12) Tryd.func26 rfl rfl rfl ?_
  refine J.seq ?_
  obtain ⟨k, n, p, m, c, rfl⟩ := ht.shape
  refine J.region ?_
  refine JL.does trivial (EX.box (v := Value.agg _) H rfl rfl) ?_
  rintro _ w ⟨b1, rfl, H⟩
  refine JL.go trivial (RX.assign) ?_
  refine JL.go trivial (RX.assign) ?_
  refine JL.nil ?_
  refine J.seq ?_
  refine J.region ?_
  refine JL.go trivial (RX.loadAgg H rfl (i := 0) (vs := tv k n p m c) rfl rfl ag25) ?_
  refine JL.does trivial (EX.call rfl cl36 rfl ((rCheck_b H ht.cons (by omega)))) ?_
  rintro _ w ⟨rfl, H⟩
  refine JL.go trivial (RX.assignv (v := Value.int _ _) rfl) ?_
  refine JL.nil ?_
  refine J.seq ?_
  refine J.seq ?_
  refine J.region ?_
  refine JL.go trivial (RX.movev (v := Value.int _ _) rfl) ?_
  refine JL.go trivial (RX.ne rfl rfl) ?_
  refine JL.nil ?_
  refine J.cond_d rfl (fun hc8 => ?_) (fun hc8 => ?_)
  · skip
    have h0 : lenO t = 0 := by
      unfold c8 at hc8
      split at hc8
      · assumption
      · exact absurd rfl hc8
    refine J.seq ?_
    refine J.region ?_
    refine JL.go trivial (RX.movev (v := Value.int _ _) rfl) ?_
    refine JL.go trivial (RX.assign) ?_
    refine JL.go trivial (RX.assignv (v := Value.int _ _) rfl) ?_
    refine JL.nil ?_
    refine J.ret2 (v := Value.string _) (x := Value.int _ _) Tryd.func26 rfl rfl rfl ?_
    exact ⟨_, rfl, by unfold textO goodB; rw [decide_eq_false (fun h => h h0)]; rfl, H.drop⟩
  · skip
    have h0 : ¬ lenO t = 0 := by
      intro h
      unfold c8 at hc8
      rw [if_pos h] at hc8
      exact hc8 (by decide)
    refine J.skip ?_
    refine J.seq ?_
    refine J.region ?_
    refine JL.go trivial (RX.loadAgg H rfl (i := 0) (vs := tv k n p m c) rfl rfl ag25) ?_
    refine JL.does trivial (EX.call rfl cl43 rfl ((rtext_b t hp (by rw [← (good_len h0).1]; exact h0) _ _ _ _ H ht.cons))) ?_
    rintro _ w ⟨rfl, H⟩
    refine JL.go trivial (RX.assignv (v := Value.string _) rfl) ?_
    refine JL.go trivial (RX.assign) ?_
    refine JL.nil ?_
    refine J.ret2 (v := Value.string _) (x := Value.int _ _) Tryd.func26 rfl rfl rfl ?_
    exact ⟨_, rfl, by unfold textO goodB c8; rw [decide_eq_true h0, if_neg h0]; rfl, H.drop⟩
end Go.Proofs.YtinbeaaloailnaaDoor
