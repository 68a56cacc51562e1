/- Numbers of math/big in lists. Sums of products of whole numbers by math/big. Linear and Cyclic of all lists. -/
import Derived.Test.YtfpphoapknecfaaGreatDoorBesafterLa
import Derived.Test.YtfpphoapknecfaaGreatDoorBesafterBq
import Derived.Test.YtfpphoapknecfaaGreatDoorBesafterSn
namespace Go.Proofs.YtfpphoapknecfaaGreatDoorBesafter
open Go Go.Eng
set_option maxRecDepth 100000
set_option linter.unusedVariables false
set_option linter.unusedSimpArgs false
namespace Nn

/-- A big.Int in memory: its block, its value, its words. -/
structure Zn where
  b : Nat
  v : Int
  q : Option Addr
  c : Nat
  sl : Seg
def Zn.seg (z : Zn) : Seg := (z.b, cel (bigV z.v z.q z.c) 53) :: z.sl
def Zn.ok (z : Zn) : Prop := OwnW z.q (wd z.v.natAbs) z.c z.sl
def Zn.p (z : Zn) : Value := .pointer (some ⟨z.b, 0, none⟩)
def Zn.zero (b : Nat) : Zn := ⟨b, 0, none, 0, []⟩
section
variable {w0 w : World} {L : List Seg}
theorem Zn.open_ {z : Zn} (H : Hp w0 w (z.seg :: L)) : Hp w0 w ([(z.b, cel (bigV z.v z.q z.c) 53)] :: z.sl :: L) :=
  Hp.split (s := [(z.b, cel (bigV z.v z.q z.c) 53)]) (t := z.sl) H
theorem Zn.close {b : Nat} {v : Int} {q : Option Addr} {c : Nat} {sl : Seg} (H : Hp w0 w ([(b, cel (bigV v q c) 53)] :: sl :: L)) : Hp w0 w ((Zn.mk b v q c sl).seg :: L) := H.join
theorem Zn.zero_seg (b : Nat) : (Zn.zero b).seg = [(b, cel [.bool false, .slice none 0 0] 53)] := by simp [Zn.seg, Zn.zero, bigV, wd, wdF]
theorem Zn.zero_ok (b : Nat) : (Zn.zero b).ok := ownW_nil
theorem Zn.at_ {z : Zn} (h : z.seg ∈ L) (hz : z.ok) : SlAt L (some ⟨z.b, 0, none⟩) (bigV z.v z.q z.c) ∧ SlAt L z.q (u64sV (wd z.v.natAbs)) ∧ (z.b, Obj.cells (bigV z.v z.q z.c).toArray 53 (0, 0)) ∈ L.flatten := by
  have hm : (z.b, Obj.cells (bigV z.v z.q z.c).toArray 53 (0, 0)) ∈ L.flatten := List.mem_flatten.2 ⟨_, h, List.mem_cons_self⟩
  refine ⟨.inr ⟨z.b, 0, _, _, _, rfl, hm, fun j _ => by simp⟩, ?_, hm⟩
  exact SlAt.perm (L := [z.sl]) (OwnSl.slAt hz) fun e he => List.mem_flatten.2 ⟨_, h, List.mem_cons_of_mem _ (by simpa using he)⟩
theorem Zn.ne {z y : Zn} (H : Hp w0 w (z.seg :: L)) (h : y.seg ∈ L) : ¬ z.b = y.b := by
  intro e
  have hn := H.nd
  rw [List.flatten_cons, List.map_append] at hn
  exact (List.nodup_append.1 hn).2.2 z.b (by simp [Zn.seg]) y.b (List.mem_map.2 ⟨_, List.mem_flatten.2 ⟨_, h, List.mem_cons_self⟩, rfl⟩) e
theorem Hp.cut {A B C : List Seg} (H : Hp w0 w (A ++ (B ++ C))) : Hp w0 w (A ++ C) := by
  have : Hp w0 w (B.flatten :: (A ++ C)) := perm_of_flatten H (by
    simp only [List.flatten_append, List.flatten_cons]
    exact List.perm_append_comm_assoc _ _ _)
  exact this.drop
theorem Hp.swap {A B C F : List Seg} (H : Hp w0 w (A ++ (B ++ (C ++ F)))) : Hp w0 w (A ++ (C ++ (B ++ F))) :=
  perm_of_flatten H (by
    simp only [List.flatten_append]
    exact List.Perm.append_left _ (List.perm_append_comm_assoc _ _ _))
theorem Hp.zout {X F : List Seg} {Zs : List Zn} {k : Nat} {z : Zn} (H : Hp w0 w (X ++ (Zs.map Zn.seg ++ F))) (hk : Zs[k]? = some z) : Hp w0 w (z.seg :: (X ++ ((Zs.map Zn.seg).set k [] ++ F))) := by
  have hkl := getE_lt hk
  have h := H.out (i := X.length + k) (s := z.seg) (by rw [List.getElem?_append_right (by omega), Nat.add_sub_cancel_left, List.getElem?_append_left (by simpa using hkl), List.getElem?_map, hk]; rfl)
  rwa [List.set_append_right _ _ (by omega), Nat.add_sub_cancel_left, List.set_append_left _ _ (by simpa using hkl)] at h
theorem Hp.zback {X F : List Seg} {Zs : List Zn} {k : Nat} {z z' : Zn} (H : Hp w0 w (z'.seg :: (X ++ ((Zs.map Zn.seg).set k [] ++ F)))) (hk : Zs[k]? = some z) : Hp w0 w (X ++ ((Zs.set k z').map Zn.seg ++ F)) := by
  have hkl := getE_lt hk
  have h := Hp.back (L := X ++ (Zs.map Zn.seg ++ F)) (i := X.length + k) (s := z.seg) (s' := z'.seg) (by rwa [List.set_append_right _ _ (by omega), Nat.add_sub_cancel_left, List.set_append_left _ _ (by simpa using hkl)])
    (by rw [List.getElem?_append_right (by omega), Nat.add_sub_cancel_left, List.getElem?_append_left (by simpa using hkl), List.getElem?_map, hk]; rfl)
  rwa [List.set_append_right _ _ (by omega), Nat.add_sub_cancel_left, List.set_append_left _ _ (by simpa using hkl), ← List.map_set] at h
theorem mapP_set {Zs : List Zn} {k : Nat} {z z' : Zn} (hk : Zs[k]? = some z) (hb : z'.b = z.b) : (Zs.set k z').map Zn.p = Zs.map Zn.p := by
  rw [List.map_set, show z'.p = z.p by unfold Zn.p; rw [hb]]
  exact set_self (by rw [List.getElem?_map, hk]; rfl)
end
/-- Numbers by their places. -/
def RowZ (Zs : List Zn) (n : Nat) (f : Nat → Int) : Prop := Zs.length = n ∧ ∀ i, i < n → ∃ z, Zs[i]? = some z ∧ z.ok ∧ z.v = f i
theorem RowZ.ext {Zs : List Zn} {n : Nat} {f g : Nat → Int} (h : RowZ Zs n f) (he : ∀ j, j < n → f j = g j) : RowZ Zs n g :=
  ⟨h.1, fun i hi => by obtain ⟨z, h1, h2, h3⟩ := h.2 i hi; exact ⟨z, h1, h2, by rw [h3, he i hi]⟩⟩
theorem RowZ.set {Zs : List Zn} {n k : Nat} {f : Nat → Int} {z' : Zn} (h : RowZ Zs n f) (hz : z'.ok) : RowZ (Zs.set k z') n (fun j => if j = k then z'.v else f j) := by
  refine ⟨by rw [List.length_set, h.1], fun i hi => ?_⟩
  rw [List.getElem?_set]
  by_cases e : k = i
  · subst e; rw [if_pos rfl, if_pos (by rw [h.1]; exact hi)]; exact ⟨z', rfl, hz, by simp⟩
  · obtain ⟨z, h1, h2, h3⟩ := h.2 i hi
    rw [if_neg e]; exact ⟨z, h1, h2, by simp only; rw [if_neg (Ne.symm e)]; exact h3⟩
theorem RowZ.vals {Zs : List Zn} {n : Nat} {f : Nat → Int} (h : RowZ Zs n f) : Zs.map (·.v) = (List.range n).map f := by
  refine List.ext_getElem? fun j => ?_
  rw [List.getElem?_map, List.getElem?_map]
  by_cases hj : j < n
  · obtain ⟨z, h1, _, h3⟩ := h.2 j hj
    rw [h1, List.getElem?_range hj]; simp [h3]
  · rw [List.getElem?_eq_none (by rw [h.1]; omega), List.getElem?_eq_none (by simp; omega)]; rfl
theorem RowZ.oks {Zs : List Zn} {n : Nat} {f : Nat → Int} (h : RowZ Zs n f) : ∀ z ∈ Zs, z.ok := by
  intro z hz
  obtain ⟨i, hi⟩ := List.mem_iff_getElem?.1 hz
  obtain ⟨z', h1, h2, _⟩ := h.2 i (by have := getE_lt hi; rw [h.1] at this; exact this)
  rw [hi] at h1; cases h1; exact h2
theorem RowZ.p_at {Zs : List Zn} {i : Nat} {z : Zn} (h : Zs[i]? = some z) : (Zs.map Zn.p)[i]? = some z.p := by rw [List.getElem?_map, h]; rfl
theorem Errs.sub {F L : List Seg} {E : Nat → Value} {Q : Nat → Addr} (h : Errs F E Q) (hs : ∀ e, e ∈ F.flatten → e ∈ L.flatten) : Errs L E Q := by
  refine ⟨fun i h0 h1 => ?_, fun i h0 h1 => ?_, h.inj⟩
  · obtain ⟨⟨C, T, fz, hm, hc⟩, h2, h3⟩ := h.at_ i h0 h1
    exact ⟨⟨C, T, fz, hs _ hm, hc⟩, h2, h3⟩
  · obtain ⟨h2, C, T, hm⟩ := h.er i h0 h1
    exact ⟨h2, C, T, hs _ hm⟩
theorem mem_app {X F : List Seg} {e : Nat × Obj} (h : e ∈ F.flatten) : e ∈ (X ++ F).flatten := by
  rw [List.flatten_append]; exact List.mem_append_right _ h
theorem rep_snoc {l : List Value} {m n : Nat} {v x : Value} (h : l.length = m) (hn : m < n) : (l ++ List.replicate (n - m) x).set m v = (l ++ [v]) ++ List.replicate (n - (m + 1)) x := by
  subst h
  rw [List.set_append_right _ _ (Nat.le_refl _), Nat.sub_self, show n - l.length = (n - (l.length + 1)) + 1 by omega, List.replicate_succ, List.set_cons_zero, List.append_assoc]; rfl
theorem fnL_rep {α : Type} (x : α) (n : Nat) : fnL (fun _ => x) n = List.replicate n x := by
  induction n with
  | zero => rfl
  | succ n ih =>
    have e : fnL (fun _ => x) (n + 1) = fnL (fun _ => x) n ++ [x] := by simp [fnL, List.range_succ]
    rw [e, ih, List.replicate_succ']
theorem mkZ : Tryz.prog.underlying 46 = some (.slice 48) ∧ ∃ i, Tryz.prog.info? 48 = some i ∧ i.zero = some (.pointer none) ∧ i.size = 1 ∧ i.bytes = 8 := ⟨by kernel_rfl, info_one (by kernel_rfl) (by kernel_rfl)⟩
theorem mkI : Tryz.prog.underlying 22 = some (.slice 2) ∧ ∃ i, Tryz.prog.info? 2 = some i ∧ i.zero = some (.int .i64 0) ∧ i.size = 1 ∧ i.bytes = 8 := ⟨by kernel_rfl, info_one (by kernel_rfl) (by kernel_rfl)⟩
section
variable {w0 w : World} {L : List Seg}
theorem Zn.row {z : Zn} (h : z.seg ∈ L) (hz : z.ok) : RowAt L z.q (wd z.v.natAbs) z.c :=
  (rowAt_own (L := []) hz).mono fun e he => List.mem_flatten.2 ⟨_, h, List.mem_cons_of_mem _ (by simpa using he)⟩
theorem zAdd_b {z y : Zn} (H : Hp w0 w (z.seg :: L)) (hz : z.ok) (hy : y.seg ∈ L) (hyo : y.ok) (hb1 : z.v.natAbs < 18446744073709551616 ^ 4) (hb2 : y.v.natAbs < 18446744073709551616 ^ 4) : Ret Tryz.prog 24 [z.p, z.p, y.p] w fun u w' => ∃ z' : Zn, u = z.p ∧ z'.b = z.b ∧ z'.v = z.v + y.v ∧ z'.ok ∧ Hp w0 w' (z'.seg :: L) := by
  obtain ⟨h1, _, _⟩ := Zn.at_ hy hyo
  refine Ret.mono (iAddG (Zn.open_ H) hz h1 (Zn.row hy hyo) hb1 hb2) ?_
  rintro u w' ⟨q, c, s1, rfl, ho, H⟩
  exact ⟨⟨z.b, z.v + y.v, q, c, s1⟩, rfl, rfl, rfl, ho, Zn.close H⟩
theorem zMul_b {z x y : Zn} (H : Hp w0 w (z.seg :: L)) (hz : z.ok) (hx : x.seg ∈ L) (hxo : x.ok) (hy : y.seg ∈ L) (hyo : y.ok) (hne : ¬ x.b = y.b) (h1 : x.v.natAbs < 18446744073709551616) (h2 : y.v.natAbs < 18446744073709551616) :
    Ret Tryz.prog 26 [z.p, x.p, y.p] w fun u w' => ∃ z' : Zn, u = z.p ∧ z'.b = z.b ∧ z'.v = x.v * y.v ∧ z'.ok ∧ Hp w0 w' (z'.seg :: L) := by
  obtain ⟨k1, _, k3⟩ := Zn.at_ hx hxo
  obtain ⟨j1, _, j3⟩ := Zn.at_ hy hyo
  refine Ret.mono (iMulG (Zn.open_ H) hz k1 (Zn.row hx hxo) j1 (Zn.row hy hyo) k3 j3 hne h1 h2) ?_
  rintro u w' ⟨q, c, s1, rfl, ho, H⟩
  exact ⟨⟨z.b, x.v * y.v, q, c, s1⟩, rfl, rfl, rfl, ho, Zn.close H⟩
theorem zNew_b {v : Int} (H : Hp w0 w L) (hv : v.natAbs ≤ 9223372036854775808) : Ret Tryz.prog 22 [.int .i64 v] w fun u w' => ∃ z : Zn, u = z.p ∧ z.v = v ∧ z.ok ∧ Hp w0 w' (z.seg :: L) := by
  refine Ret.mono (NewInt_b H hv) ?_
  rintro u w' ⟨b, q, c, sl, rfl, ho, H⟩
  exact ⟨⟨b, v, q, c, sl⟩, rfl, rfl, ho, Zn.close H⟩
theorem zAddAt_b {X F : List Seg} {Zs : List Zn} {k : Nat} {z y : Zn} (H : Hp w0 w (X ++ (Zs.map Zn.seg ++ F))) (hk : Zs[k]? = some z) (hz : z.ok) (hy : y.seg ∈ X) (hyo : y.ok) (hb1 : z.v.natAbs < 18446744073709551616 ^ 4) (hb2 : y.v.natAbs < 18446744073709551616 ^ 4) :
    Ret Tryz.prog 24 [z.p, z.p, y.p] w fun u w' => ∃ z' : Zn, u = z.p ∧ z'.b = z.b ∧ z'.v = z.v + y.v ∧ z'.ok ∧ Hp w0 w' (X ++ ((Zs.set k z').map Zn.seg ++ F)) := by
  refine Ret.mono (zAdd_b (Hp.zout H hk) hz (List.mem_append_left _ hy) hyo hb1 hb2) ?_
  rintro u w' ⟨z', rfl, h1, h2, h3, H⟩
  exact ⟨z', rfl, h1, h2, h3, Hp.zback H hk⟩
theorem hp_snoc {row : Seg} {z : Zn} {Zs : List Zn} {F : List Seg} (H : Hp w0 w (row :: z.seg :: (Zs.map Zn.seg ++ F))) : Hp w0 w (row :: ((Zs ++ [z]).map Zn.seg ++ F)) :=
  perm_of_flatten H (by
    simp only [List.flatten_cons, List.flatten_append, List.map_append, List.map_cons, List.map_nil, List.flatten_nil, List.append_nil, List.append_assoc]
    exact List.Perm.append_left _ (List.perm_append_comm_assoc _ _ _))
end

set_option maxHeartbeats 1600000 in
theorem none_b {w0 w : World} {F : List Seg} (H : Hp w0 w F) {n : Nat} (hn : n ≤ 1048576) : Ret Tryz.prog 21 [.int .i64 ((n : Nat) : Int)] w fun v w' => ∃ bo Zs, v = .slice (some ⟨bo, 0, none⟩) n n ∧ RowZ Zs n (fun _ => 0) ∧ Hp w0 w' ([(bo, cel ((Zs).map Zn.p) 48)] :: (Zs.map Zn.seg ++ F)) := by
  refine Calls.of_J (n := 18) Tryz.func21 rfl rfl rfl ?_
  refine J.seq ?_
  refine J.region ?_
  refine JL.go trivial (RX.assign) ?_
  refine JL.nil ?_
  refine J.seq ?_
  refine J.region ?_
  refine JL.go trivial (RX.movev (v := Value.int _ _) rfl) ?_
  refine JL.does trivial (EX.makeS (e := 48) (m := n) H mkZ.1 mkZ.2 rfl rfl rfl (by omega) (by omega) (by omega)) ?_
  rintro _ w ⟨bo, rfl, H⟩
  rw [fnL_rep] at H
  refine JL.go trivial (RX.assignv (v := Value.slice _ _ _) rfl) ?_
  refine JL.nil ?_
  refine J.seq ?_
  refine J.seq ?_
  refine J.region ?_
  refine JL.go trivial (RX.movev (v := Value.slice _ _ _) rfl) ?_
  refine JL.go trivial (RX.len_slice rfl (by rw [sl46]; rfl) rfl) ?_
  refine JL.go trivial (RX.move) ?_
  refine JL.nil ?_
  refine J.block ?_
  refine J.loop (ι := Nat × List Zn) (S := fun z => [(9, .int .i64 ((z.1 : Nat) : Int))]) (Φ := fun z w => z.1 ≤ n ∧ RowZ z.2 z.1 (fun _ => 0) ∧ Hp w0 w ([(bo, cel (z.2.map Zn.p ++ List.replicate (n - z.1) (.pointer none)) 48)] :: (z.2.map Zn.seg ++ F))) (μ := fun z => n - z.1) (C := [(3, _), (8, _)]) (0, []) ⟨rfl, rfl, trivial⟩ ⟨rfl, trivial⟩ ?_ ?_
  · exact ⟨by simp, ⟨rfl, fun i hi => by simp at hi⟩, H⟩
  clear H
  rintro ⟨i, Zs⟩ ρ w ⟨hi, hz, H⟩ IH
  simp only at hi hz H
  dsimp only
  refine J.seq ?_
  refine J.region ?_
  refine JL.go trivial (RX.lt rfl rfl) ?_
  refine JL.nil ?_
  refine J.seq ?_
  refine J.cond_d rfl (fun hlt => ?_) (fun hlt => ?_)
  · skip
    refine J.skip ?_
    refine J.seq ?_
    refine J.block ?_
    refine J.seq ?_
    refine J.region ?_
    refine JL.go trivial (RX.movev (v := Value.int _ _) rfl) ?_
    refine JL.go trivial (RX.assignv (v := Value.int _ _) rfl) ?_
    refine JL.nil ?_
    refine J.region ?_
    refine JL.go trivial (RX.movev (v := Value.slice _ _ _) rfl) ?_
    refine JL.go trivial (RX.movev (v := Value.int _ _) rfl) ?_
    refine JL.does trivial (EX.alloc H zr53 rfl) ?_
    rintro _ w ⟨bz, rfl, H⟩
    refine JL.go trivial (RX.indexAddr rfl rfl sl46 (by omega) (by omega) (o' := i) (by omega)) ?_
    refine JL.does trivial (EX.store (v := Value.pointer _) H rfl rfl (i := 1) rfl rfl (by simp; have := hz.1; omega) sz48 rfl rfl) ?_
    rintro _ w H
    refine JL.nil ?_
    refine J.inBlock ?_
    refine J.region ?_
    refine JL.go trivial (RX.add rfl rfl (wi (n := i + 1) (by omega) (by omega))) ?_
    refine JL.go trivial (RX.movev (v := Value.int _ _) rfl) ?_
    refine JL.nil ?_
    have hr := rep_snoc (l := Zs.map Zn.p) (m := i) (n := n) (v := .pointer (some ⟨bz, 0, none⟩)) (x := .pointer none) (by simp [hz.1]) (by omega)
    simp only [List.set_cons_succ, List.set_cons_zero] at H
    rw [hr, ← Zn.zero_seg] at H
    have H2 := hp_snoc (H.pull 1 rfl)
    refine IH (i + 1, Zs ++ [Zn.zero bz]) _ _ (by simp only; omega) ⟨rfl, rfl, trivial⟩ ⟨rfl, trivial⟩ ⟨by simp only; omega, ⟨by simp [hz.1], fun j hj => ?_⟩, by simp only; rw [show (Zs ++ [Zn.zero bz]).map Zn.p = Zs.map Zn.p ++ [Value.pointer (some ⟨bz, 0, none⟩)] by rw [List.map_append]; rfl]; exact H2⟩
    by_cases e : j < i
    · obtain ⟨z, h1, h2, h3⟩ := hz.2 j e
      exact ⟨z, by rw [List.getElem?_append_left (getE_lt h1)]; exact h1, h2, h3⟩
    · obtain rfl : j = i := by simp only at hj; omega
      exact ⟨Zn.zero bz, by rw [List.getElem?_append_right (by rw [hz.1]; exact Nat.le_refl _), hz.1]; simp, Zn.zero_ok _, rfl⟩
  · skip
    refine J.exit rfl ?_
    refine J.seq ?_
    refine J.region ?_
    refine JL.go trivial (RX.movev (v := Value.slice _ _ _) rfl) ?_
    refine JL.go trivial (RX.assignv (v := Value.slice _ _ _) rfl) ?_
    refine JL.nil ?_
    refine J.ret1 (v := Value.slice _ _ _) Tryz.func21 rfl rfl ?_
    obtain rfl : i = n := by omega
    rw [Nat.sub_self, List.replicate_zero, List.append_nil] at H
    exact ⟨_, rfl, bo, Zs, rfl, hz, H⟩
set_option maxHeartbeats 1600000 in
theorem whole_b {w0 w : World} {L : List Seg} {E : Nat → Value} {Q : Nat → Addr} (H : Hp w0 w L) (hE : Errs L E Q) {Zs : List Zn} {p : Option Addr} {c : Nat} (hs : SlAt L p (Zs.map Zn.p)) (hm : ∀ z ∈ Zs, z.seg ∈ L) (ho : ∀ z ∈ Zs, z.ok) (hn : Zs.length ≤ 1048576) : Ret Tryz.prog 25 [.slice p Zs.length c] w fun v w' => ((∀ z ∈ Zs, i64in z.v) ∧ ∃ b, v = .tuple #[.slice (some ⟨b, 0, none⟩) Zs.length Zs.length, .nilIface] ∧ Hp w0 w' ([(b, cel (i64sV (Zs.map (·.v))) 2)] :: L)) ∨ ((¬ ∀ z ∈ Zs, i64in z.v) ∧ v = .tuple #[.slice none 0 0, E 19] ∧ Hp w0 w' L) := by
  refine Calls.of_J (n := 28) Tryz.func25 rfl rfl rfl ?_
  refine J.seq ?_
  refine J.region ?_
  refine JL.go trivial (RX.assign) ?_
  refine JL.go trivial (RX.assign) ?_
  refine JL.nil ?_
  refine J.seq ?_
  refine J.region ?_
  refine JL.go trivial (RX.movev (v := Value.slice _ _ _) rfl) ?_
  refine JL.go trivial (RX.len_slice rfl (by rw [sl46]; rfl) rfl) ?_
  refine JL.does trivial (EX.makeS (e := 2) (m := Zs.length) H mkI.1 mkI.2 rfl rfl rfl (by omega) (by omega) (by omega)) ?_
  rintro _ w ⟨bo, rfl, H⟩
  rw [fnL_rep] at H
  refine JL.go trivial (RX.assignv (v := Value.slice _ _ _) rfl) ?_
  refine JL.nil ?_
  refine J.seq ?_
  refine J.seq ?_
  refine J.region ?_
  refine JL.go trivial (RX.movev (v := Value.slice _ _ _) rfl) ?_
  refine JL.go trivial (RX.len_slice rfl (by rw [sl46]; rfl) rfl) ?_
  refine JL.go trivial (RX.move) ?_
  refine JL.nil ?_
  refine J.block ?_
  refine J.loop (ι := Nat) (S := fun i => [(12, .int .i64 ((i : Nat) : Int))]) (Φ := fun i w => i ≤ Zs.length ∧ (∀ j z, j < i → Zs[j]? = some z → i64in z.v) ∧ Hp w0 w ([(bo, cel (i64sV ((Zs.map (·.v)).take i) ++ List.replicate (Zs.length - i) (.int .i64 0)) 2)] :: L)) (μ := fun i => Zs.length - i) (C := [(4, _), (10, _), (11, _)]) 0 ⟨rfl, rfl, rfl, trivial⟩ ⟨rfl, trivial⟩ ?_ ?_
  · exact ⟨by omega, fun j z h => by omega, H⟩
  clear H
  rintro i ρ w ⟨hi, hin, H⟩ IH
  refine J.seq ?_
  refine J.region ?_
  refine JL.go trivial (RX.lt rfl rfl) ?_
  refine JL.nil ?_
  refine J.seq ?_
  refine J.cond_d rfl (fun hlt => ?_) (fun hlt => ?_)
  · skip
    obtain ⟨z, hz⟩ : ∃ z, Zs[i]? = some z := ⟨_, List.getElem?_eq_getElem (by omega)⟩
    have hzm := List.mem_of_getElem? hz
    obtain ⟨h1, h2, _⟩ := Zn.at_ (hm z hzm) (ho z hzm)
    obtain ⟨pb, po, rfl, hpp⟩ := hs.some (by simp; omega)
    refine J.skip ?_
    refine J.seq ?_
    refine J.block ?_
    refine J.seq ?_
    refine J.region ?_
    refine JL.go trivial (RX.movev (v := Value.int _ _) rfl) ?_
    refine JL.go trivial (RX.indexAddr rfl rfl sl46 (by omega) (by omega) (o' := po + i) (by omega)) ?_
    refine JL.go trivial (RX.loadS H hs.cons rfl (j := i) rfl (v := z.p) (RowZ.p_at hz) one48) ?_
    refine JL.go trivial (RX.assignv (v := Value.int _ _) rfl) ?_
    refine JL.go trivial (RX.assignv (v := z.p) rfl) ?_
    refine JL.nil ?_
    refine J.seq ?_
    refine J.seq ?_
    refine J.region ?_
    refine JL.go trivial (RX.movev (v := z.p) rfl) ?_
    refine JL.does trivial (EX.call rfl cl41 rfl ((isInt64_b H h1.cons h2.cons))) ?_
    rintro _ w ⟨rfl, H⟩
    refine JL.go trivial (RX.not rfl) ?_
    refine JL.nil ?_
    refine J.cond rfl (fun hni => ?_) (fun hni => ?_)
    · skip
      have hno : ¬ i64in z.v := by simpa using hni
      refine J.seq ?_
      refine J.quietH H hmix (by kernel_rfl) ?_
      refine JQ.go trivial (fun w H => RX.loadG H rfl (hE.cons.at_ 19 (by decide) (by decide)).at_ one25) ?_
      refine JQ.go trivial (fun w H => RX.assign) ?_
      refine JQ.go trivial (fun w H => RX.assignv (v := E 19) rfl) ?_
      refine JQ.nil fun w H => ?_
      refine J.ret2 (v := Value.slice _ _ _) Tryz.func25 rfl rfl rfl ?_
      exact ⟨_, rfl, .inr ⟨fun h => hno (h z hzm), rfl, H.drop⟩⟩
    · skip
      have hyes : i64in z.v := by simpa using hni
      refine J.skip ?_
      refine J.region ?_
      refine JL.go trivial (RX.movev (v := Value.slice _ _ _) rfl) ?_
      refine JL.go trivial (RX.movev (v := Value.int _ _) rfl) ?_
      refine JL.go trivial (RX.movev (v := z.p) rfl) ?_
      refine JL.does trivial (EX.call rfl cl42 rfl ((int64_b H h1.cons h2.cons hyes))) ?_
      rintro _ w ⟨rfl, H⟩
      refine JL.go trivial (RX.indexAddr rfl rfl sl22 (by omega) (by omega) (o' := i) (by omega)) ?_
      refine JL.does trivial (EX.store (v := Value.int _ _) H rfl rfl (i := 0) rfl rfl (by simp [i64sV]; omega) sz2 rfl rfl) ?_
      rintro _ w H
      refine JL.nil ?_
      refine J.inBlock ?_
      refine J.region ?_
      refine JL.go trivial (RX.add rfl rfl (wi (n := i + 1) (by omega) (by omega))) ?_
      refine JL.go trivial (RX.movev (v := Value.int _ _) rfl) ?_
      refine JL.nil ?_
      have hzv : (Zs.map (·.v))[i]? = some z.v := by rw [List.getElem?_map, hz]; rfl
      have hr := rep_snoc (l := i64sV ((Zs.map (·.v)).take i)) (m := i) (n := Zs.length) (v := .int .i64 z.v) (x := .int .i64 0) (by simp [i64sV]; omega) (by omega)
      simp only [List.set_cons_zero] at H
      rw [hr, show i64sV ((Zs.map (·.v)).take i) ++ [.int .i64 z.v] = i64sV ((Zs.map (·.v)).take (i + 1)) by rw [take_succ_get hzv]; simp [i64sV]] at H
      refine IH (i + 1) _ _ (by omega) ⟨rfl, rfl, rfl, trivial⟩ ⟨rfl, trivial⟩ ⟨by omega, fun j y hj hy => ?_, H⟩
      by_cases e : j = i
      · subst e; rw [hz] at hy; cases hy; exact hyes
      · exact hin j y (by omega) hy
  · skip
    refine J.exit rfl ?_
    refine J.seq ?_
    refine J.region ?_
    refine JL.go trivial (RX.movev (v := Value.slice _ _ _) rfl) ?_
    refine JL.go trivial (RX.assignv (v := Value.slice _ _ _) rfl) ?_
    refine JL.go trivial (RX.assign) ?_
    refine JL.nil ?_
    refine J.ret2 (v := Value.slice _ _ _) Tryz.func25 rfl rfl rfl ?_
    obtain rfl : i = Zs.length := by omega
    rw [Nat.sub_self, List.replicate_zero, List.append_nil, List.take_of_length_le (by simp)] at H
    refine ⟨_, rfl, .inl ⟨fun z hz => ?_, bo, rfl, H⟩⟩
    obtain ⟨j, hj⟩ := List.mem_iff_getElem?.1 hz
    exact hin j z (getE_lt hj) hj
def accI (kf : Nat → Nat) (f : Nat → Int) (Z : Nat → Int) : Nat → Nat → Int
  | 0 => Z
  | j + 1 => fun i => if i = kf j then accI kf f Z j i + f j else accI kf f Z j i
def accO (kf : Nat → Nat → Nat) (f : Nat → Nat → Int) (m : Nat) : Nat → Nat → Int
  | 0 => fun _ => 0
  | i + 1 => accI (kf i) (f i) (accO kf f m i) m
/-- The products of two lists. -/
def prodE (us vs : List Int) (i j : Nat) : Int := (us[i]?).getD 0 * (vs[j]?).getD 0
def gatL (kf : Nat → Nat → Nat) (us vs : List Int) (n : Nat) : List Int := (List.range n).map (accO kf (prodE us vs) vs.length us.length)
theorem i64sV_range {n : Nat} {f : Nat → Int} : (i64sV ((List.range n).map f)).length = n := by simp [i64sV]

theorem mulB4 {a b : Int} (ha : a.natAbs ≤ 9223372036854775808) (hb : b.natAbs ≤ 9223372036854775808) : (a * b).natAbs < 18446744073709551616 ^ 4 := by
  rw [Int.natAbs_mul]
  exact Nat.lt_of_le_of_lt (Nat.mul_le_mul ha hb) (by decide)

set_option maxHeartbeats 1600000 in
theorem gather_b {w0 w : World} {F : List Seg} {E : Nat → Value} {Q : Nat → Addr} (H : Hp w0 w F) (hE : Errs F E Q) {us vs : List Int} {pa pb : Option Addr} {ca cb : Nat} (hsa : SlAt F pa (i64sV us)) (hsb : SlAt F pb (i64sV vs)) (has : ∀ u ∈ us, i64in u) (hbs : ∀ u ∈ vs, i64in u) (hla : us.length ≤ 1048576) (hlb : vs.length ≤ 1048576) {n cl : Nat} {cv : List Value} {kf : Nat → Nat → Nat} (hn : n ≤ 1048576) (hcl : callable Tryz.prog cl = true) (hkf : ∀ i j, i < us.length → j < vs.length → kf i j < n) (hat : ∀ (i j : Nat) (w : World) (L : List Seg), i < us.length → j < vs.length → Hp w0 w L → (∀ p xs, SlAt F p xs → SlAt L p xs) → Ret Tryz.prog cl (.int .i64 ((i : Nat) : Int) :: .int .i64 ((j : Nat) : Int) :: cv) w fun v w' => v = .int .i64 ((kf i j : Nat) : Int) ∧ Hp w0 w' L) (hB : ∀ i j k, i < us.length → j ≤ vs.length → k < n → (accI (kf i) (prodE us vs i) (accO kf (prodE us vs) vs.length i) j k).natAbs < 18446744073709551616 ^ 4) : Ret Tryz.prog 16 [.slice pa us.length ca, .slice pb vs.length cb, .int .i64 ((n : Nat) : Int), .func (.func cl) #[] cv.toArray] w fun v w' => ((∀ k, k < n → i64in (accO kf (prodE us vs) vs.length us.length k)) ∧ ∃ b, v = .tuple #[.slice (some ⟨b, 0, none⟩) n n, .nilIface] ∧ Hp w0 w' ([(b, cel (i64sV (gatL kf us vs n)) 2)] :: F)) ∨ ((¬ ∀ k, k < n → i64in (accO kf (prodE us vs) vs.length us.length k)) ∧ v = .tuple #[.slice none 0 0, E 19] ∧ Hp w0 w' F) := by
  refine Calls.of_J (n := 60) Tryz.func16 rfl rfl rfl ?_
  refine J.seq ?_
  refine J.region ?_
  refine JL.go trivial (RX.assign) ?_
  refine JL.go trivial (RX.assign) ?_
  refine JL.nil ?_
  refine J.seq ?_
  refine J.region ?_
  refine JL.go trivial (RX.movev (v := Value.int _ _) rfl) ?_
  refine JL.does trivial (EX.call rfl cl21 rfl ((none_b H hn))) ?_
  rintro _ w ⟨bo, Zs, rfl, hZ, H⟩
  refine JL.go trivial (RX.assignv (v := Value.slice _ _ _) rfl) ?_
  refine JL.nil ?_
  refine J.seq ?_
  refine J.region ?_
  refine JL.does trivial (EX.alloc H zr53 rfl) ?_
  rintro _ w ⟨bx, rfl, H⟩
  replace H : Hp w0 w ((Zn.zero bx).seg :: [(bo, cel ((Zs).map Zn.p) 48)] :: (Zs.map Zn.seg ++ F)) := by rw [Zn.zero_seg]; exact H
  refine JL.go trivial (RX.assignv (v := Value.pointer _) rfl) ?_
  refine JL.nil ?_
  refine J.seq ?_
  refine J.seq ?_
  refine J.region ?_
  refine JL.go trivial (RX.movev (v := Value.slice _ _ _) rfl) ?_
  refine JL.go trivial (RX.len_slice rfl (by rw [sl22]; rfl) rfl) ?_
  refine JL.go trivial (RX.move) ?_
  refine JL.nil ?_
  refine J.block ?_
  refine J.loop (ι := Nat × List Zn × Zn) (S := fun z => [(22, .int .i64 ((z.1 : Nat) : Int))]) (Φ := fun z w => z.1 ≤ us.length ∧ RowZ z.2.1 n (accO kf (prodE us vs) vs.length z.1) ∧ z.2.2.ok ∧ z.2.2.b = bx ∧ Hp w0 w (z.2.2.seg :: [(bo, cel ((z.2.1).map Zn.p) 48)] :: (z.2.1.map Zn.seg ++ F))) (μ := fun z => us.length - z.1) (C := [(1, _), (3, _), (10, _), (11, _), (20, _), (21, _)]) (0, Zs, Zn.zero bx) ⟨rfl, rfl, rfl, rfl, rfl, rfl, trivial⟩ ⟨rfl, trivial⟩ ?_ ?_
  · exact ⟨by simp, hZ, Zn.zero_ok _, rfl, H⟩
  clear H hZ
  rintro ⟨i, Zs, x⟩ ρ w ⟨hi, hZ, hx, hxb, H⟩ IH
  simp only at hi hZ hx hxb H
  dsimp only
  refine J.seq ?_
  refine J.region ?_
  refine JL.go trivial (RX.lt rfl rfl) ?_
  refine JL.nil ?_
  refine J.seq ?_
  refine J.cond_d rfl (fun hilt => ?_) (fun hilt => ?_)
  · skip
    obtain ⟨u, hu⟩ : ∃ u, us[i]? = some u := ⟨_, List.getElem?_eq_getElem (by omega)⟩
    obtain ⟨hu1, hu2⟩ : i64in u := has u (List.mem_of_getElem? hu)
    obtain ⟨qa, oa, rfl, hqa⟩ := hsa.some (by rw [i64sV_len]; omega)
    have hFL : ∀ {X F : List Seg} {p : Option Addr} {xs : List Value}, SlAt F p xs → SlAt (X ++ F) p xs := fun h => h.perm fun e he => mem_app he
    refine J.skip ?_
    refine J.seq ?_
    refine J.block ?_
    refine J.seq ?_
    refine J.region ?_
    refine JL.go trivial (RX.movev (v := Value.int _ _) rfl) ?_
    refine JL.go trivial (RX.indexAddr rfl rfl sl22 (by omega) (by omega) (o' := oa + i) (by omega)) ?_
    refine JL.go trivial (RX.loadS H (hFL (X := x.seg :: [(bo, cel ((Zs).map Zn.p) 48)] :: Zs.map Zn.seg) hsa) rfl (j := i) rfl (v := .int .i64 u) (i64sV_get hu) one2) ?_
    refine JL.go trivial (RX.assignv (v := Value.int _ _) rfl) ?_
    refine JL.go trivial (RX.assignv (v := Value.int _ _) rfl) ?_
    refine JL.nil ?_
    refine J.seq ?_
    refine J.region ?_
    refine JL.go trivial (RX.movev (v := Value.slice _ _ _) rfl) ?_
    refine JL.go trivial (RX.len_slice rfl (by rw [sl22]; rfl) rfl) ?_
    refine JL.go trivial (RX.move) ?_
    refine JL.nil ?_
    refine J.block ?_
    refine J.loop (ι := Nat × List Zn × Zn) (S := fun z => [(29, .int .i64 ((z.1 : Nat) : Int))]) (Φ := fun z w => z.1 ≤ vs.length ∧ RowZ z.2.1 n (accI (kf i) (prodE us vs i) (accO kf (prodE us vs) vs.length i) z.1) ∧ z.2.2.ok ∧ z.2.2.b = bx ∧ Hp w0 w (z.2.2.seg :: [(bo, cel ((z.2.1).map Zn.p) 48)] :: (z.2.1.map Zn.seg ++ F))) (μ := fun z => vs.length - z.1) (C := [(1, _), (3, _), (10, _), (11, _), (12, _), (13, _), (20, _), (21, _), (22, _), (27, _), (28, _)]) (0, Zs, x) ⟨rfl, rfl, rfl, rfl, rfl, rfl, rfl, rfl, rfl, rfl, rfl, trivial⟩ ⟨rfl, trivial⟩ ?_ ?_
    · exact ⟨by simp, hZ, hx, hxb, H⟩
    clear H hZ hx hxb
    rintro ⟨j, Zs, x⟩ ρ w ⟨hj, hZ, hx, hxb, H⟩ IH2
    simp only at hj hZ hx hxb H
    dsimp only
    refine J.seq ?_
    refine J.region ?_
    refine JL.go trivial (RX.lt rfl rfl) ?_
    refine JL.nil ?_
    refine J.seq ?_
    refine J.cond_d rfl (fun hjlt => ?_) (fun hjlt => ?_)
    · skip
      obtain ⟨v, hv⟩ : ∃ v, vs[j]? = some v := ⟨_, List.getElem?_eq_getElem (by omega)⟩
      obtain ⟨hv1, hv2⟩ : i64in v := hbs v (List.mem_of_getElem? hv)
      obtain ⟨qb, ob, rfl, hqb⟩ := hsb.some (by rw [i64sV_len]; omega)
      refine J.skip ?_
      refine J.seq ?_
      refine J.block ?_
      refine J.seq ?_
      refine J.region ?_
      refine JL.go trivial (RX.movev (v := Value.int _ _) rfl) ?_
      refine JL.go trivial (RX.indexAddr rfl rfl sl22 (by omega) (by omega) (o' := ob + j) (by omega)) ?_
      refine JL.go trivial (RX.loadS H (hFL (X := x.seg :: [(bo, cel ((Zs).map Zn.p) 48)] :: Zs.map Zn.seg) hsb) rfl (j := j) rfl (v := .int .i64 v) (i64sV_get hv) one2) ?_
      refine JL.go trivial (RX.assignv (v := Value.int _ _) rfl) ?_
      refine JL.go trivial (RX.assignv (v := Value.int _ _) rfl) ?_
      refine JL.nil ?_
      refine J.seq ?_
      refine J.region ?_
      refine JL.go trivial (RX.movev (v := x.p) (by rw [show x.p = .pointer (some ⟨x.b, 0, none⟩) from rfl, hxb]; rfl)) ?_
      refine JL.go trivial (RX.movev (v := Value.int _ _) rfl) ?_
      refine JL.does trivial (EX.call rfl cl22 rfl ((zNew_b H (by omega)))) ?_
      rintro _ w ⟨z1, rfl, hz1, ho1, H⟩
      refine JL.go trivial (RX.movev (v := Value.int _ _) rfl) ?_
      refine JL.does trivial (EX.call rfl cl22 rfl ((zNew_b H (by omega)))) ?_
      rintro _ w ⟨z2, rfl, hz2, ho2, H⟩
      refine JL.does trivial (EX.call rfl cl26 rfl ((zMul_b (H.pull 2 rfl) hx (x := z1) (y := z2) (by simp) ho1 (by simp) ho2 (fun e => Zn.ne H (by simp) e.symm) (by omega) (by omega)))) ?_
      rintro _ w ⟨x1, rfl, hx1b, hx1v, hx1, H⟩
      replace H := (H.pull 1 rfl).drop
      replace H := (H.pull 1 rfl).drop
      have hxv : x1.v = prodE us vs i j := by rw [hx1v, hz1, hz2]; simp [prodE, hu, hv]
      refine JL.nil ?_
      refine J.seq ?_
      refine J.region ?_
      refine JL.go trivial (RX.movev (v := .func _ _ _) rfl) ?_
      refine JL.go trivial (RX.movev (v := Value.int _ _) rfl) ?_
      refine JL.go trivial (RX.movev (v := Value.int _ _) rfl) ?_
      refine JL.does trivial (EX.callv (f := cl) (fv := []) (cv := cv) rfl hcl rfl rfl (hat i j w _ (by omega) (by omega) H (fun p xs h => hFL (X := x1.seg :: [(bo, cel ((Zs).map Zn.p) 48)] :: Zs.map Zn.seg) h))) ?_
      rintro _ w ⟨rfl, H⟩
      refine JL.go trivial (RX.assignv (v := Value.int _ _) rfl) ?_
      refine JL.nil ?_
      have hkn := hkf i j (by omega) (by omega)
      obtain ⟨z, hzk, hzo, hzv⟩ := hZ.2 (kf i j) hkn
      have hzl : Zs.length = n := hZ.1
      refine J.any hmix fun w hs => ?_
      replace H := H.same hs; clear hs
      refine JA.stage (listed := [false, false, false, false, false, false, false, false, false, false]) 9 [0, 1, 2, 3, 4, 5, 6, 7, 8] H (by kernel_rfl) rfl rfl ?_
      refine JI.go rfl trivial (fun w H => RX.movev (v := Value.slice _ _ _) rfl) ?_
      refine JI.go rfl trivial (fun w H => RX.movev (v := Value.int _ _) rfl) ?_
      refine JI.go rfl trivial (fun w H => RX.indexAddr rfl rfl sl46 (by omega) (by omega) (o' := kf i j) (by omega)) ?_
      refine JI.go rfl trivial (fun w H => RX.load H rfl (i := 1) (v := z.p) rfl (RowZ.p_at hzk) one48) ?_
      refine JI.go rfl trivial (fun w H => RX.movev (v := Value.slice _ _ _) rfl) ?_
      refine JI.go rfl trivial (fun w H => RX.movev (v := Value.int _ _) rfl) ?_
      refine JI.go rfl trivial (fun w H => RX.indexAddr rfl rfl sl46 (by omega) (by omega) (o' := kf i j) (by omega)) ?_
      refine JI.go rfl trivial (fun w H => RX.load H rfl (i := 1) (v := z.p) rfl (RowZ.p_at hzk) one48) ?_
      refine JI.go rfl trivial (fun w H => RX.movev (v := x1.p) (by rw [show x1.p = .pointer (some ⟨x1.b, 0, none⟩) from rfl, hx1b, hxb]; rfl)) ?_
      refine JI.nil fun w H => ?_
      refine JL.does trivial (EX.call rfl cl24 rfl ((zAddAt_b (X := [x1.seg, [(bo, cel ((Zs).map Zn.p) 48)]]) H hzk hzo (by simp) hx1 (by rw [hzv]; exact hB i j _ (by omega) (by omega) hkn) (by rw [hx1v, hz1, hz2]; exact mulB4 (by omega) (by omega))))) ?_
      rintro _ w ⟨z3, rfl, hz3b, hz3v, hz3, H⟩
      rw [← mapP_set hzk hz3b] at H
      refine JL.nil ?_
      refine J.inBlock ?_
      refine J.region ?_
      refine JL.go trivial (RX.add rfl rfl (wi (n := j + 1) (by omega) (by omega))) ?_
      refine JL.go trivial (RX.movev (v := Value.int _ _) rfl) ?_
      refine JL.nil ?_
      refine IH2 (j + 1, Zs.set (kf i j) z3, x1) _ _ (by simp only; omega) ⟨rfl, rfl, rfl, rfl, rfl, rfl, rfl, rfl, rfl, rfl, rfl, trivial⟩ ⟨rfl, trivial⟩ ⟨by simp only; omega, (hZ.set hz3).ext fun k hk => ?_, hx1, hx1b.trans hxb, H⟩
      simp only [accI]
      by_cases e : k = kf i j
      · subst e; rw [if_pos rfl, if_pos rfl, hz3v, hzv, hxv]
      · rw [if_neg e, if_neg e]
    · skip
      obtain rfl : j = vs.length := by omega
      refine J.exit rfl ?_
      refine J.inBlock ?_
      refine J.region ?_
      refine JL.go trivial (RX.add rfl rfl (wi (n := i + 1) (by omega) (by omega))) ?_
      refine JL.go trivial (RX.movev (v := Value.int _ _) rfl) ?_
      refine JL.nil ?_
      exact IH (i + 1, Zs, x) _ _ (by simp only; omega) ⟨rfl, rfl, rfl, rfl, rfl, rfl, trivial⟩ ⟨rfl, trivial⟩ ⟨by simp only; omega, hZ, hx, hxb, H⟩
  · skip
    obtain rfl : i = us.length := by omega
    have hzl : Zs.length = n := hZ.1
    refine J.exit rfl ?_
    refine J.seq ?_
    refine J.region ?_
    refine JL.go trivial (RX.movev (v := Value.slice _ _ _) rfl) ?_
    refine JL.does trivial (EX.call rfl cl25 rfl ((show Ret _ _ [.slice (some ⟨bo, 0, none⟩) n n] w _ by rw [← hzl]; exact whole_b H (hE.sub fun e he => mem_app (X := x.seg :: [(bo, cel ((Zs).map Zn.p) 48)] :: Zs.map Zn.seg) he) (SlAt.cons (SlAt.here List.take_length)) (fun z hz => List.mem_cons_of_mem _ (List.mem_cons_of_mem _ (List.mem_append_left _ (List.mem_map_of_mem hz)))) hZ.oks (by omega)))) ?_
    rintro uu w hW
    have hall : (∀ z ∈ Zs, i64in z.v) ↔ (∀ k, k < n → i64in (accO kf (prodE us vs) vs.length us.length k)) := by
      constructor
      · intro h k hk
        obtain ⟨z1, k1, _, k3⟩ := hZ.2 k hk
        rw [← k3]; exact h z1 (List.mem_of_getElem? k1)
      · intro h z hz
        obtain ⟨k, hk⟩ := List.mem_iff_getElem?.1 hz
        have hkl := getE_lt hk
        obtain ⟨z1, k1, _, k3⟩ := hZ.2 k (by omega)
        rw [hk] at k1; cases k1
        rw [k3]; exact h k (by omega)
    obtain ⟨a1, a2, rfl, hW2⟩ : ∃ a1 a2, uu = Value.tuple #[a1, a2] ∧ (((∀ k, k < n → i64in (accO kf (prodE us vs) vs.length us.length k)) ∧ ∃ b, Value.tuple #[a1, a2] = .tuple #[.slice (some ⟨b, 0, none⟩) n n, .nilIface] ∧ Hp w0 w ([(b, cel (i64sV (gatL kf us vs n)) 2)] :: F)) ∨ ((¬ (∀ k, k < n → i64in (accO kf (prodE us vs) vs.length us.length k))) ∧ Value.tuple #[a1, a2] = .tuple #[.slice none 0 0, E 19] ∧ Hp w0 w F)) := by
      rcases hW with ⟨hy, b, h1, H⟩ | ⟨hno, h1, H⟩
      · rw [hzl] at h1
        rw [hZ.vals] at H
        exact ⟨_, _, h1, .inl ⟨hall.1 hy, b, rfl, Hp.cut (A := [[(b, cel (i64sV (gatL kf us vs n)) 2)]]) (B := x.seg :: [(bo, cel ((Zs).map Zn.p) 48)] :: Zs.map Zn.seg) H⟩⟩
      · exact ⟨_, _, h1, .inr ⟨fun h => hno (hall.2 h), rfl, Hp.cut (A := []) (B := x.seg :: [(bo, cel ((Zs).map Zn.p) 48)] :: Zs.map Zn.seg) H⟩⟩
    refine JL.go trivial (RX.extract rfl rfl) ?_
    refine JL.go trivial (RX.extract rfl rfl) ?_
    refine JL.go trivial (RX.assignv (v := a1) rfl) ?_
    refine JL.go trivial (RX.assignv (v := a2) rfl) ?_
    refine JL.nil ?_
    refine J.ret2 Tryz.func16 rfl rfl rfl ?_
    exact ⟨_, rfl, hW2⟩
/-- The sum of f over the numbers below n. -/
def isum (f : Nat → Int) : Nat → Int
  | 0 => 0
  | j + 1 => isum f j + f j
theorem isum_ext {f g : Nat → Int} : ∀ {n : Nat}, (∀ j, j < n → f j = g j) → isum f n = isum g n
  | 0, _ => rfl
  | n + 1, h => by rw [isum, isum, isum_ext fun j hj => h j (by omega), h n (by omega)]
theorem isum_zero {f : Nat → Int} : ∀ {n : Nat}, (∀ j, j < n → f j = 0) → isum f n = 0
  | 0, _ => rfl
  | n + 1, h => by rw [isum, isum_zero fun j hj => h j (by omega), h n (by omega)]; rfl
theorem isum_add (f g : Nat → Int) : ∀ n, isum (fun j => f j + g j) n = isum f n + isum g n
  | 0 => rfl
  | n + 1 => by rw [isum, isum, isum, isum_add f g n]; omega
theorem isum_mul (c : Int) (f : Nat → Int) : ∀ n, isum (fun j => c * f j) n = c * isum f n
  | 0 => by simp [isum]
  | n + 1 => by rw [isum, isum, isum_mul c f n, Int.mul_add]
theorem isum_one {q : Nat} {c : Int} : ∀ {n : Nat}, isum (fun j => if j = q then c else 0) n = if q < n then c else 0
  | 0 => by simp [isum]
  | n + 1 => by
    rw [isum, isum_one]
    by_cases h : q < n
    · rw [if_pos h, if_neg (by omega), if_pos (by omega)]; omega
    · by_cases e : n = q
      · rw [if_neg h, if_pos e, if_pos (by omega)]; omega
      · rw [if_neg h, if_neg e, if_neg (by omega)]; omega
theorem isum_swap (f : Nat → Nat → Int) (m : Nat) : ∀ n, isum (fun i => isum (fun j => f i j) m) n = isum (fun j => isum (fun i => f i j) n) m
  | 0 => (isum_zero fun _ _ => rfl).symm
  | n + 1 => by
    rw [isum, isum_swap f m n, ← isum_add]; rfl
/-- Place k of a convolution, as a sum. -/
theorem accI_sum (kf : Nat → Nat) (f Z : Nat → Int) (k : Nat) : ∀ j, accI kf f Z j k = Z k + isum (fun j => if kf j = k then f j else 0) j
  | 0 => by rw [isum, Int.add_zero]; rfl
  | j + 1 => by
    have ih := accI_sum kf f Z k j
    simp only [accI, isum]
    by_cases h : k = kf j
    · rw [if_pos h, if_pos h.symm, ih]; omega
    · rw [if_neg h, if_neg (fun e => h e.symm), ih]; omega
theorem accO_sum (kf : Nat → Nat → Nat) (f : Nat → Nat → Int) (m k : Nat) : ∀ i, accO kf f m i k = isum (fun i => isum (fun j => if kf i j = k then f i j else 0) m) i
  | 0 => rfl
  | i + 1 => by
    simp only [accO]
    rw [accI_sum, accO_sum kf f m k i, isum]
/-- Place k of the linear convolution. -/
def lin (a b : List Int) (k : Nat) : Int := accO (fun i j => i + j) (prodE a b) b.length a.length k
def cyc (a b : List Int) (k : Nat) : Int := accO (fun i j => (i + j) % a.length) (prodE a b) b.length a.length k
theorem lin_comm (a b : List Int) (k : Nat) : lin a b k = lin b a k := by
  unfold lin
  rw [accO_sum, accO_sum, isum_swap]
  refine isum_ext fun i _ => isum_ext fun j _ => ?_
  rw [Nat.add_comm j i]
  unfold prodE
  rw [Int.mul_comm]
theorem lin_add {a b c s : List Int} {n : Nat} (hb : b.length = n) (hc : c.length = n) (hs : s.length = n) (h : ∀ j, j < n → (s[j]?).getD 0 = (b[j]?).getD 0 + (c[j]?).getD 0) (k : Nat) : lin a s k = lin a b k + lin a c k := by
  unfold lin
  rw [accO_sum, accO_sum, accO_sum, hb, hc, hs, ← isum_add]
  refine isum_ext fun i _ => ?_
  rw [← isum_add]
  refine isum_ext fun j hj => ?_
  by_cases e : i + j = k
  · rw [if_pos e, if_pos e, if_pos e]; unfold prodE; rw [h j hj, Int.mul_add]
  · rw [if_neg e, if_neg e, if_neg e]; rfl
theorem lin_fold {a b : List Int} {k m : Nat} (ha : a.length = m) (hb : b.length = m) (hk : k < m) : cyc a b k = lin a b k + lin a b (k + m) := by
  unfold cyc lin
  rw [accO_sum, accO_sum, accO_sum, ha, hb, ← isum_add]
  refine isum_ext fun i hi => ?_
  rw [← isum_add]
  refine isum_ext fun j hj => ?_
  by_cases h : i + j < m
  · rw [Nat.mod_eq_of_lt h]
    rw [if_neg (show ¬ i + j = k + m by omega)]; omega
  · rw [Nat.mod_eq_sub_mod (by omega), Nat.mod_eq_of_lt (by omega)]
    rw [if_neg (show ¬ i + j = k by omega)]
    by_cases e : i + j = k + m
    · rw [if_pos e, if_pos (by omega)]; omega
    · rw [if_neg e, if_neg (by omega)]; rfl
/-- No place beyond the last. -/
theorem lin_out {a b : List Int} {k : Nat} (h : a.length + b.length ≤ k + 1) (hb : 0 < b.length) : lin a b k = 0 := by
  unfold lin
  rw [accO_sum]
  refine isum_zero fun i hi => isum_zero fun j hj => ?_
  rw [if_neg (by omega)]
/-- Bounds. -/
theorem isum_le {B : Nat} {f : Nat → Int} (h : ∀ j, (f j).natAbs ≤ B) : ∀ n, (isum f n).natAbs ≤ n * B
  | 0 => by simp [isum]
  | n + 1 => by
    have h1 := isum_le h n
    have h2 := h n
    have h3 := Int.natAbs_add_le (isum f n) (f n)
    rw [Nat.succ_mul, isum]; omega
theorem accI_le {B C : Nat} {kf : Nat → Nat} {f Z : Nat → Int} {k : Nat} (hf : ∀ j, (f j).natAbs ≤ B) (hZ : (Z k).natAbs ≤ C) (j : Nat) : (accI kf f Z j k).natAbs ≤ C + j * B := by
  rw [accI_sum]
  have h1 := isum_le (f := fun j => if kf j = k then f j else 0) (B := B) (fun j => by by_cases h : kf j = k; simp only [if_pos h]; exact hf j; simp only [if_neg h]; simp) j
  have h2 := Int.natAbs_add_le (Z k) (isum (fun j => if kf j = k then f j else 0) j)
  omega
theorem accO_le {B : Nat} {kf : Nat → Nat → Nat} {f : Nat → Nat → Int} {m k : Nat} (hf : ∀ i j, (f i j).natAbs ≤ B) : ∀ i, (accO kf f m i k).natAbs ≤ i * (m * B)
  | 0 => by simp [accO]
  | i + 1 => by
    have := accI_le (kf := kf i) (hf i) (accO_le (kf := kf) (f := f) (m := m) (k := k) hf i) m
    rw [Nat.succ_mul]; exact this
def linL (a b : List Int) : List Int := (List.range (a.length + b.length - 1)).map (lin a b)
def cycL (a b : List Int) : List Int := (List.range a.length).map (cyc a b)
/-- The errors' numbers. -/
def linE (a b : List Int) : Nat := if a.length = 0 ∨ b.length = 0 then 7 else if i64all (linL a b) then 0 else 19
def linV (a b : List Int) : List Int := if linE a b = 0 then linL a b else []
def cycE (a b : List Int) : Nat := if a.length = 0 ∨ 1024 < a.length ∨ b.length ≠ a.length then 7 else if i64all (cycL a b) then 0 else 19
def cycV (a b : List Int) : List Int := if cycE a b = 0 then cycL a b else []
theorem linL_len (a b : List Int) : (linL a b).length = a.length + b.length - 1 := by simp [linL]
theorem cycL_len (a b : List Int) : (cycL a b).length = a.length := by simp [cycL]
theorem linL_get {a b : List Int} {k : Nat} (h : k < a.length + b.length - 1) : (linL a b)[k]? = some (lin a b k) := by simp [linL, h]
theorem cycL_get {a b : List Int} {k : Nat} (h : k < a.length) : (cycL a b)[k]? = some (cyc a b k) := by simp [cycL, h]
theorem linL_comm (a b : List Int) : linL a b = linL b a := by
  unfold linL
  rw [Nat.add_comm a.length]
  exact List.map_congr_left fun k _ => lin_comm a b k
theorem linE_comm (a b : List Int) : linE a b = linE b a := by
  unfold linE
  rw [linL_comm a b]
  by_cases h : a.length = 0 ∨ b.length = 0
  · rw [if_pos h, if_pos h.symm]
  · have h' : ¬ (b.length = 0 ∨ a.length = 0) := by omega
    rw [if_neg h, if_neg h']
theorem linV_comm (a b : List Int) : linV a b = linV b a := by
  unfold linV
  rw [linE_comm, linL_comm]
theorem linE_le (a b : List Int) : linE a b ≤ 19 := by unfold linE; split; omega; split <;> omega
theorem cycE_le (a b : List Int) : cycE a b ≤ 19 := by unfold cycE; split; omega; split <;> omega
theorem linV_le (a b : List Int) : (linV a b).length ≤ a.length + b.length := by
  unfold linV; split
  · rw [linL_len]; omega
  · simp
theorem cycV_le (a b : List Int) : (cycV a b).length ≤ a.length := by
  unfold cycV; split
  · rw [cycL_len]; omega
  · simp
theorem linE_zero {a b : List Int} (h : linE a b = 0) : a.length ≠ 0 ∧ b.length ≠ 0 ∧ i64all (linL a b) ∧ linV a b = linL a b := by
  refine ⟨?_, ?_, ?_, if_pos h⟩
  · intro k; unfold linE at h; rw [if_pos (.inl k)] at h; omega
  · intro k; unfold linE at h; rw [if_pos (.inr k)] at h; omega
  · unfold linE at h; split at h; omega; split at h; assumption; omega
theorem cycE_zero {a b : List Int} (h : cycE a b = 0) : i64all (cycL a b) ∧ cycV a b = cycL a b := by
  refine ⟨?_, if_pos h⟩
  unfold cycE at h; split at h; omega; split at h; assumption; omega
theorem linE_eq {a b : List Int} (ha : 0 < a.length) (hb : 0 < b.length) : linE a b = if i64all (linL a b) then 0 else 19 := if_neg (by omega)
/-- Sums by places. -/
def zadd (a b : List Int) : List Int := (List.range a.length).map fun k => (a[k]?).getD 0 + (b[k]?).getD 0
theorem zadd_len (a b : List Int) : (zadd a b).length = a.length := by simp [zadd]
theorem zadd_get {a b : List Int} {k : Nat} (h : k < a.length) : (zadd a b)[k]? = some ((a[k]?).getD 0 + (b[k]?).getD 0) := by simp [zadd, h]
/-- What plus gives. -/
def plusV (a b : List Int) : List Int := if i64all (zadd a b) then zadd a b else []
theorem linL_add {a b c : List Int} (hc : c.length = b.length) : linL a (zadd b c) = zadd (linL a b) (linL a c) := by
  have hl : (zadd b c).length = b.length := zadd_len b c
  refine List.ext_getElem? fun k => ?_
  by_cases hk : k < a.length + b.length - 1
  · rw [linL_get (by rw [hl]; exact hk), zadd_get (by rw [linL_len]; exact hk), linL_get hk, linL_get (by rw [hc]; exact hk)]
    rw [lin_add (n := b.length) rfl hc hl (fun j hj => by rw [zadd_get hj]; rfl)]
    rfl
  · rw [List.getElem?_eq_none (by rw [linL_len, hl]; omega), List.getElem?_eq_none (by rw [zadd_len, linL_len]; omega)]
theorem lin_both {a b c : List Int} (hc : c.length = b.length) (ha : 0 < a.length) (hb : 0 < b.length) : linV a (zadd b c) = plusV (linL a b) (linL a c) ∧ (linE a (zadd b c) = 0 ↔ i64all (zadd (linL a b) (linL a c))) := by
  have e := linE_eq (a := a) (b := zadd b c) ha (by rw [zadd_len]; exact hb)
  unfold linV plusV
  rw [e, linL_add hc]
  by_cases h : i64all (zadd (linL a b) (linL a c))
  · rw [if_pos h, if_pos h, if_pos rfl]; exact ⟨rfl, fun _ => h, fun _ => rfl⟩
  · rw [if_neg h, if_neg h, if_neg (by decide)]; exact ⟨rfl, fun h => by omega, fun k => absurd k h⟩
/-- A place of the cyclic convolution, as the law adds it up. -/
theorem fold_law {a b : List Int} {m k : Nat} (ha : a.length = m) (hb : b.length = m) (hk : k < m) : ∃ u, (linL a b)[k]? = some u ∧ (if k + m < 2 * m - 1 then ∃ v, (linL a b)[k + m]? = some v ∧ cyc a b k = u + v else cyc a b k = u) := by
  refine ⟨lin a b k, linL_get (by omega), ?_⟩
  have h := lin_fold ha hb hk
  by_cases h2 : k + m < 2 * m - 1
  · rw [if_pos h2]
    exact ⟨_, linL_get (by omega), h⟩
  · rw [if_neg h2, h, lin_out (k := k + m) (by omega) (by omega), Int.add_zero]
theorem prodE_le {us vs : List Int} (has : ∀ u ∈ us, i64in u) (hbs : ∀ u ∈ vs, i64in u) (i j : Nat) : (prodE us vs i j).natAbs ≤ 85070591730234615865843651857942052864 := by
  unfold prodE
  rw [Int.natAbs_mul]
  have h : ∀ {l : List Int}, (∀ u ∈ l, i64in u) → ∀ i : Nat, ((l[i]?).getD 0).natAbs ≤ 9223372036854775808 := fun {l} hl i => getD_le (fun x hx => by have := hl x hx; unfold i64in at this; omega) i
  exact Nat.mul_le_mul (h has i) (h hbs j)
theorem acc_lt {us vs : List Int} (has : ∀ u ∈ us, i64in u) (hbs : ∀ u ∈ vs, i64in u) {kf : Nat → Nat → Nat} {i j k : Nat} (hi : i ≤ 1048576) (hj : j ≤ 1048576) (hv : vs.length ≤ 1048576) : (accI (kf i) (prodE us vs i) (accO kf (prodE us vs) vs.length i) j k).natAbs < 18446744073709551616 ^ 4 := by
  have h1 := accI_le (kf := kf i) (Z := accO kf (prodE us vs) vs.length i) (k := k) (prodE_le has hbs i) (accO_le (kf := kf) (m := vs.length) (k := k) (prodE_le has hbs) i) j
  have h2 : i * (vs.length * 85070591730234615865843651857942052864) ≤ 1048576 * (1048576 * 85070591730234615865843651857942052864) := Nat.mul_le_mul hi (Nat.mul_le_mul hv (Nat.le_refl _))
  have h3 : j * 85070591730234615865843651857942052864 ≤ 1048576 * 85070591730234615865843651857942052864 := Nat.mul_le_mul hj (Nat.le_refl _)
  exact Nat.lt_of_le_of_lt h1 (Nat.lt_of_le_of_lt (Nat.add_le_add h2 h3) (by decide))
def gE (l : List Int) : Nat := if i64all l then 0 else 19
def gV (l : List Int) : List Int := if i64all l then l else []
theorem ownI2 {b : Nat} (ys : List Int) : OwnSl 2 1 (some ⟨b, 0, none⟩) ys.length ys.length (i64sV ys) [(b, cel (i64sV ys) 2)] := ownI ys
theorem linE_g {a b : List Int} (ha : 0 < a.length) (hb : 0 < b.length) : linE a b = gE (linL a b) ∧ linV a b = gV (linL a b) := by
  have h := linE_eq ha hb
  refine ⟨h, ?_⟩
  unfold linV gV
  rw [h]
  by_cases k : i64all (linL a b)
  · rw [if_pos k, if_pos k, if_pos rfl]
  · rw [if_neg k, if_neg k, if_neg (by decide)]
theorem cycE_g {a b : List Int} (ha : 0 < a.length) (ha2 : a.length ≤ 1024) (hb : b.length = a.length) : cycE a b = gE (cycL a b) ∧ cycV a b = gV (cycL a b) := by
  have h : cycE a b = gE (cycL a b) := if_neg (by omega)
  refine ⟨h, ?_⟩
  unfold cycV gV
  rw [h]
  unfold gE
  by_cases k : i64all (cycL a b)
  · rw [if_pos k, if_pos k, if_pos rfl]
  · rw [if_neg k, if_neg k, if_neg (by decide)]


theorem gather_u {w0 w : World} {F : List Seg} {E : Nat → Value} {Q : Nat → Addr} (H : Hp w0 w F) (hE : Errs F E Q) {us vs : List Int} {pa pb : Option Addr} {ca cb : Nat} (hsa : SlAt F pa (i64sV us)) (hsb : SlAt F pb (i64sV vs)) (has : i64all us) (hbs : i64all vs) (hla : us.length ≤ 1024) (hlb : vs.length ≤ 1024) {n cl : Nat} {cv : List Value} {kf : Nat → Nat → Nat} (hn : n ≤ 1048576) (hcl : callable Tryz.prog cl = true) (hkf : ∀ i j, i < us.length → j < vs.length → kf i j < n) (hat : ∀ (i j : Nat) (w : World) (L : List Seg), i < us.length → j < vs.length → Hp w0 w L → (∀ p xs, SlAt F p xs → SlAt L p xs) → Ret Tryz.prog cl (.int .i64 ((i : Nat) : Int) :: .int .i64 ((j : Nat) : Int) :: cv) w fun v w' => v = .int .i64 ((kf i j : Nat) : Int) ∧ Hp w0 w' L) :
    Ret Tryz.prog 16 [.slice pa us.length ca, .slice pb vs.length cb, .int .i64 ((n : Nat) : Int), .func (.func cl) #[] cv.toArray] w fun v w' => ∃ q c sl, v = .tuple #[.slice q (gV (gatL kf us vs n)).length c, errV E (gE (gatL kf us vs n))] ∧ OwnSl 2 1 q (gV (gatL kf us vs n)).length c (i64sV (gV (gatL kf us vs n))) sl ∧ Hp w0 w' (sl :: F) := by
  have hall : (∀ k, k < n → i64in (accO kf (prodE us vs) vs.length us.length k)) ↔ i64all (gatL kf us vs n) := by
    unfold gatL i64all
    simp
  refine Ret.mono (gather_b H hE hsa hsb has hbs (by omega) (by omega) hn hcl hkf hat (fun i j k hi hj hk => acc_lt has hbs (by omega) (by omega) (by omega))) ?_
  rintro v w' (⟨h, b, rfl, H⟩ | ⟨h, rfl, H⟩)
  · have k := hall.1 h
    have hl : (gatL kf us vs n).length = n := by simp [gatL]
    unfold gV gE
    rw [if_pos k, if_pos k]
    exact ⟨_, _, _, by rw [hl]; rfl, ownI _, H⟩
  · have k : ¬ i64all (gatL kf us vs n) := fun k => h (hall.2 k)
    unfold gV gE
    rw [if_neg k, if_neg k]
    exact ⟨none, 0, [], rfl, OwnSl.nil, H.nil⟩

set_option maxHeartbeats 1600000 in
theorem linear_g {w0 w : World} {F : List Seg} {E : Nat → Value} {Q : Nat → Addr} (H : Hp w0 w F) (hE : Errs F E Q) {a b : List Int} {pa pb : Option Addr} {ca cb : Nat} (ha : SlAt F pa (i64sV a)) (hb : SlAt F pb (i64sV b)) (has : i64all a) (hbs : i64all b) (h1 : 0 < a.length) (h2 : a.length ≤ 1024) (h3 : 0 < b.length) (h4 : b.length ≤ 1024) : Ret Tryz.prog 5 [.slice pa a.length ca, .slice pb b.length cb] w fun v w' => ∃ q c sl, v = .tuple #[.slice q (linV a b).length c, errV E (linE a b)] ∧ OwnSl 2 1 q (linV a b).length c (i64sV (linV a b)) sl ∧ Hp w0 w' (sl :: F) := by
  refine Calls.of_J (n := 34) Tryz.func5 rfl rfl rfl ?_
  refine J.seq ?_
  have hq : a.length ≤ 1048576 / b.length := (Nat.le_div_iff_mul_le h3).2 (Nat.le_trans (Nat.mul_le_mul h2 h4) (by decide))
  have hq2 : 1048576 / b.length ≤ 1048576 := Nat.div_le_self _ _
  obtain ⟨e1, e2⟩ := linE_g h1 h3
  refine J.region ?_
  refine JL.go trivial (RX.assign) ?_
  refine JL.go trivial (RX.assign) ?_
  refine JL.nil ?_
  refine J.seq ?_
  refine J.seq ?_
  refine J.region ?_
  refine JL.go trivial (RX.movev (v := Value.slice _ _ _) rfl) ?_
  refine JL.go trivial (RX.len_slice rfl (by rw [sl22]; rfl) rfl) ?_
  refine JL.go trivial (RX.eq rfl rfl) ?_
  refine JL.go trivial (RX.movev (v := Value.bool _) rfl) ?_
  refine JL.go ⟨_, rfl, (decide_eq_false (by omega))⟩ (RX.movev (v := Value.slice _ _ _) rfl) ?_
  refine JL.go ⟨_, rfl, (decide_eq_false (by omega))⟩ (RX.len_slice rfl (by rw [sl22]; rfl) rfl) ?_
  refine JL.go ⟨_, rfl, (decide_eq_false (by omega))⟩ (RX.eq rfl rfl) ?_
  refine JL.go trivial (RX.pick_f rfl (decide_eq_false (by omega))) ?_
  refine JL.go trivial (RX.movev (v := Value.bool _) rfl) ?_
  refine JL.go ⟨_, rfl, (decide_eq_false (by omega))⟩ (RX.movev (v := Value.slice _ _ _) rfl) ?_
  refine JL.go ⟨_, rfl, (decide_eq_false (by omega))⟩ (RX.len_slice rfl (by rw [sl22]; rfl) rfl) ?_
  refine JL.go ⟨_, rfl, (decide_eq_false (by omega))⟩ (RX.movev (v := Value.slice _ _ _) rfl) ?_
  refine JL.go ⟨_, rfl, (decide_eq_false (by omega))⟩ (RX.len_slice rfl (by rw [sl22]; rfl) rfl) ?_
  refine JL.go ⟨_, rfl, (decide_eq_false (by omega))⟩ (RX.quo rfl rfl (by omega) (r := ((1048576 / b.length : Nat) : Int)) (by rw [show (1048576 : Int) = ((1048576 : Nat) : Int) from rfl, quo_nat]; exact wi rfl (by omega))) ?_
  refine JL.go ⟨_, rfl, (decide_eq_false (by omega))⟩ (RX.gt rfl rfl) ?_
  refine JL.go trivial (RX.pick_f rfl (decide_eq_false (by omega))) ?_
  refine JL.nil ?_
  refine J.cond_f rfl (decide_eq_false (by omega)) ?_
  refine J.skip ?_
  refine J.seq ?_
  refine J.region ?_
  refine JL.go trivial (RX.movev (v := Value.slice _ _ _) rfl) ?_
  refine JL.go trivial (RX.movev (v := Value.slice _ _ _) rfl) ?_
  refine JL.go trivial (RX.movev (v := Value.slice _ _ _) rfl) ?_
  refine JL.go trivial (RX.len_slice rfl (by rw [sl22]; rfl) rfl) ?_
  refine JL.go trivial (RX.movev (v := Value.slice _ _ _) rfl) ?_
  refine JL.go trivial (RX.len_slice rfl (by rw [sl22]; rfl) rfl) ?_
  refine JL.go trivial (RX.add rfl rfl (wi (n := a.length + b.length) (by omega) (by omega))) ?_
  refine JL.go trivial (RX.sub rfl rfl (wi (n := a.length + b.length - 1) (by omega) (by omega))) ?_
  refine JL.does trivial (EX.call rfl cl16 rfl ((gather_u (kf := fun i j => i + j) (n := a.length + b.length - 1) H hE ha hb has hbs h2 h4 (by omega) cl17 (fun i j hi hj => by omega) (fun i j w L hi hj H _ => LinAt_b H (by omega))))) ?_
  rintro _ w ⟨q, c, sl, rfl, ho, H⟩
  refine JL.go trivial (RX.extract rfl rfl) ?_
  refine JL.go trivial (RX.extract (v := errV E (gE (gatL (fun i j => i + j) a b (a.length + b.length - 1)))) rfl rfl) ?_
  refine JL.go trivial (RX.assignv (v := Value.slice _ _ _) rfl) ?_
  refine JL.go trivial (RX.assignv (v := errV E (gE (gatL (fun i j => i + j) a b (a.length + b.length - 1)))) rfl) ?_
  refine JL.nil ?_
  refine J.ret2 (v := Value.slice _ _ _) Tryz.func5 rfl rfl rfl ?_
  rw [e1, e2]
  exact ⟨_, rfl, q, c, sl, rfl, ho, H⟩
set_option maxHeartbeats 1600000 in
theorem linear_e0 {w0 w : World} {F : List Seg} {E : Nat → Value} {Q : Nat → Addr} (H : Hp w0 w F) (hE : Errs F E Q) {a b : List Int} {pa pb : Option Addr} {ca cb : Nat} (ha : SlAt F pa (i64sV a)) (hb : SlAt F pb (i64sV b)) (has : i64all a) (hbs : i64all b) (h1 : a.length = 0) (h2 : a.length ≤ 1024) (h4 : b.length ≤ 1024) : Ret Tryz.prog 5 [.slice pa a.length ca, .slice pb b.length cb] w fun v w' => ∃ q c sl, v = .tuple #[.slice q (linV a b).length c, errV E (linE a b)] ∧ OwnSl 2 1 q (linV a b).length c (i64sV (linV a b)) sl ∧ Hp w0 w' (sl :: F) := by
  refine Calls.of_J (n := 34) Tryz.func5 rfl rfl rfl ?_
  refine J.seq ?_
  have e1 : linE a b = 7 := if_pos (.inl h1)
  have e2 : linV a b = [] := if_neg (by rw [e1]; decide)
  refine J.region ?_
  refine JL.go trivial (RX.assign) ?_
  refine JL.go trivial (RX.assign) ?_
  refine JL.nil ?_
  refine J.seq ?_
  refine J.seq ?_
  refine J.region ?_
  refine JL.go trivial (RX.movev (v := Value.slice _ _ _) rfl) ?_
  refine JL.go trivial (RX.len_slice rfl (by rw [sl22]; rfl) rfl) ?_
  refine JL.go trivial (RX.eq rfl rfl) ?_
  refine JL.go trivial (RX.movev (v := Value.bool _) rfl) ?_
  refine JL.no ⟨_, rfl, gno (decide_eq_true (by omega))⟩ ?_
  refine JL.no ⟨_, rfl, gno (decide_eq_true (by omega))⟩ ?_
  refine JL.no ⟨_, rfl, gno (decide_eq_true (by omega))⟩ ?_
  refine JL.go trivial (RX.pick_t rfl (decide_eq_true (by omega))) ?_
  refine JL.go trivial (RX.movev (v := Value.bool _) rfl) ?_
  refine JL.no ⟨_, rfl, gno rfl⟩ ?_
  refine JL.no ⟨_, rfl, gno rfl⟩ ?_
  refine JL.no ⟨_, rfl, gno rfl⟩ ?_
  refine JL.no ⟨_, rfl, gno rfl⟩ ?_
  refine JL.no ⟨_, rfl, gno rfl⟩ ?_
  refine JL.no ⟨_, rfl, gno rfl⟩ ?_
  refine JL.go trivial (RX.pick_t rfl rfl) ?_
  refine JL.nil ?_
  refine J.cond_t rfl rfl ?_
  refine J.seq ?_
  refine J.quietH H hmix (by kernel_rfl) ?_
  refine JQ.go trivial (fun w H => RX.loadG H rfl (hE.at_ 7 (by decide) (by decide)).at_ one25) ?_
  refine JQ.go trivial (fun w H => RX.assign) ?_
  refine JQ.go trivial (fun w H => RX.assignv (v := E 7) rfl) ?_
  refine JQ.nil fun w H => ?_
  refine J.ret2 (v := Value.slice _ _ _) Tryz.func5 rfl rfl rfl ?_
  rw [e1, e2]
  exact ⟨_, rfl, none, 0, [], rfl, OwnSl.nil, H.nil⟩
set_option maxHeartbeats 1600000 in
theorem linear_e1 {w0 w : World} {F : List Seg} {E : Nat → Value} {Q : Nat → Addr} (H : Hp w0 w F) (hE : Errs F E Q) {a b : List Int} {pa pb : Option Addr} {ca cb : Nat} (ha : SlAt F pa (i64sV a)) (hb : SlAt F pb (i64sV b)) (has : i64all a) (hbs : i64all b) (h1 : b.length = 0) (h0 : 0 < a.length) (h2 : a.length ≤ 1024) (h4 : b.length ≤ 1024) : Ret Tryz.prog 5 [.slice pa a.length ca, .slice pb b.length cb] w fun v w' => ∃ q c sl, v = .tuple #[.slice q (linV a b).length c, errV E (linE a b)] ∧ OwnSl 2 1 q (linV a b).length c (i64sV (linV a b)) sl ∧ Hp w0 w' (sl :: F) := by
  refine Calls.of_J (n := 34) Tryz.func5 rfl rfl rfl ?_
  refine J.seq ?_
  have e1 : linE a b = 7 := if_pos (.inr h1)
  have e2 : linV a b = [] := if_neg (by rw [e1]; decide)
  refine J.region ?_
  refine JL.go trivial (RX.assign) ?_
  refine JL.go trivial (RX.assign) ?_
  refine JL.nil ?_
  refine J.seq ?_
  refine J.seq ?_
  refine J.region ?_
  refine JL.go trivial (RX.movev (v := Value.slice _ _ _) rfl) ?_
  refine JL.go trivial (RX.len_slice rfl (by rw [sl22]; rfl) rfl) ?_
  refine JL.go trivial (RX.eq rfl rfl) ?_
  refine JL.go trivial (RX.movev (v := Value.bool _) rfl) ?_
  refine JL.go ⟨_, rfl, (decide_eq_false (by omega))⟩ (RX.movev (v := Value.slice _ _ _) rfl) ?_
  refine JL.go ⟨_, rfl, (decide_eq_false (by omega))⟩ (RX.len_slice rfl (by rw [sl22]; rfl) rfl) ?_
  refine JL.go ⟨_, rfl, (decide_eq_false (by omega))⟩ (RX.eq rfl rfl) ?_
  refine JL.go trivial (RX.pick_f rfl (decide_eq_false (by omega))) ?_
  refine JL.go trivial (RX.movev (v := Value.bool _) rfl) ?_
  refine JL.no ⟨_, rfl, gno (decide_eq_true (by omega))⟩ ?_
  refine JL.no ⟨_, rfl, gno (decide_eq_true (by omega))⟩ ?_
  refine JL.no ⟨_, rfl, gno (decide_eq_true (by omega))⟩ ?_
  refine JL.no ⟨_, rfl, gno (decide_eq_true (by omega))⟩ ?_
  refine JL.no ⟨_, rfl, gno (decide_eq_true (by omega))⟩ ?_
  refine JL.no ⟨_, rfl, gno (decide_eq_true (by omega))⟩ ?_
  refine JL.go trivial (RX.pick_t rfl (decide_eq_true (by omega))) ?_
  refine JL.nil ?_
  refine J.cond_t rfl rfl ?_
  refine J.seq ?_
  refine J.quietH H hmix (by kernel_rfl) ?_
  refine JQ.go trivial (fun w H => RX.loadG H rfl (hE.at_ 7 (by decide) (by decide)).at_ one25) ?_
  refine JQ.go trivial (fun w H => RX.assign) ?_
  refine JQ.go trivial (fun w H => RX.assignv (v := E 7) rfl) ?_
  refine JQ.nil fun w H => ?_
  refine J.ret2 (v := Value.slice _ _ _) Tryz.func5 rfl rfl rfl ?_
  rw [e1, e2]
  exact ⟨_, rfl, none, 0, [], rfl, OwnSl.nil, H.nil⟩
theorem Linear_b {w0 w : World} {F : List Seg} {E : Nat → Value} {Q : Nat → Addr} (H : Hp w0 w F) (hE : Errs F E Q) {a b : List Int} {pa pb : Option Addr} {ca cb : Nat} (ha : SlAt F pa (i64sV a)) (hb : SlAt F pb (i64sV b)) (has : i64all a) (hbs : i64all b) (h2 : a.length ≤ 1024) (h4 : b.length ≤ 1024) : Ret Tryz.prog 5 [.slice pa a.length ca, .slice pb b.length cb] w fun v w' => ∃ q c sl, v = .tuple #[.slice q (linV a b).length c, errV E (linE a b)] ∧ OwnSl 2 1 q (linV a b).length c (i64sV (linV a b)) sl ∧ Hp w0 w' (sl :: F) := by
  by_cases ha0 : a.length = 0
  · exact linear_e0 H hE ha hb has hbs ha0 h2 h4
  · by_cases hb0 : b.length = 0
    · exact linear_e1 H hE ha hb has hbs hb0 (by omega) h2 h4
    · exact linear_g H hE ha hb has hbs (by omega) h2 (by omega) h4
set_option maxHeartbeats 1600000 in
theorem cyclic_g {w0 w : World} {F : List Seg} {E : Nat → Value} {Q : Nat → Addr} (H : Hp w0 w F) (hE : Errs F E Q) {a b : List Int} {pa pb : Option Addr} {ca cb : Nat} (ha : SlAt F pa (i64sV a)) (hb : SlAt F pb (i64sV b)) (has : i64all a) (hbs : i64all b) (h1 : 0 < a.length) (h2 : a.length ≤ 1024) (h3 : b.length = a.length) : Ret Tryz.prog 9 [.slice pa a.length ca, .slice pb b.length cb] w fun v w' => ∃ q c sl, v = .tuple #[.slice q (cycV a b).length c, errV E (cycE a b)] ∧ OwnSl 2 1 q (cycV a b).length c (i64sV (cycV a b)) sl ∧ Hp w0 w' (sl :: F) := by
  refine Calls.of_J (n := 29) Tryz.func9 rfl rfl rfl ?_
  refine J.seq ?_
  obtain ⟨e1, e2⟩ := cycE_g h1 h2 h3
  refine J.region ?_
  refine JL.go trivial (RX.assign) ?_
  refine JL.go trivial (RX.assign) ?_
  refine JL.nil ?_
  refine J.seq ?_
  refine J.region ?_
  refine JL.go trivial (RX.movev (v := Value.slice _ _ _) rfl) ?_
  refine JL.go trivial (RX.len_slice rfl (by rw [sl22]; rfl) rfl) ?_
  refine JL.does trivial (EX.alloc H zr3 rfl) ?_
  rintro _ w ⟨b1, rfl, H⟩
  refine JL.does trivial (by first | exact EX.store (v := Value.int _ _) H rfl rfl (i := 0) rfl rfl (by simp) sz3 rfl rfl | exact EX.store (v := Value.int _ _) H rfl rfl (i := 1) rfl rfl (by simp) sz3 rfl rfl) ?_
  rintro _ w H
  refine JL.nil ?_
  refine J.seq ?_
  refine J.seq ?_
  refine J.region ?_
  refine JL.go trivial (by first | exact RX.load H rfl (i := 0) rfl rfl one3 | exact RX.load H rfl (i := 1) rfl rfl one3) ?_
  refine JL.go trivial (RX.eq rfl rfl) ?_
  refine JL.go trivial (RX.movev (v := Value.bool _) rfl) ?_
  refine JL.go ⟨_, rfl, (decide_eq_false (by omega))⟩ (by first | exact RX.load H rfl (i := 0) rfl rfl one3 | exact RX.load H rfl (i := 1) rfl rfl one3) ?_
  refine JL.go ⟨_, rfl, (decide_eq_false (by omega))⟩ (RX.gt rfl rfl) ?_
  refine JL.go trivial (RX.pick_f rfl (decide_eq_false (by omega))) ?_
  refine JL.go trivial (RX.movev (v := Value.bool _) rfl) ?_
  refine JL.go ⟨_, rfl, (decide_eq_false (by omega))⟩ (RX.movev (v := Value.slice _ _ _) rfl) ?_
  refine JL.go ⟨_, rfl, (decide_eq_false (by omega))⟩ (RX.len_slice rfl (by rw [sl22]; rfl) rfl) ?_
  refine JL.go ⟨_, rfl, (decide_eq_false (by omega))⟩ (by first | exact RX.load H rfl (i := 0) rfl rfl one3 | exact RX.load H rfl (i := 1) rfl rfl one3) ?_
  refine JL.go ⟨_, rfl, (decide_eq_false (by omega))⟩ (RX.ne rfl rfl) ?_
  refine JL.go trivial (RX.pick_f rfl (decide_eq_false (by omega))) ?_
  refine JL.nil ?_
  refine J.cond_f rfl (decide_eq_false (by omega)) ?_
  refine J.skip ?_
  refine J.seq ?_
  refine J.region ?_
  refine JL.go trivial (RX.movev (v := Value.slice _ _ _) rfl) ?_
  refine JL.go trivial (RX.movev (v := Value.slice _ _ _) rfl) ?_
  refine JL.go trivial (by first | exact RX.load H rfl (i := 0) rfl rfl one3 | exact RX.load H rfl (i := 1) rfl rfl one3) ?_
  refine JL.go trivial (RX.makeFunc rfl rfl) ?_
  refine JL.does trivial (EX.call rfl cl16 rfl ((gather_u (kf := fun i j => (i + j) % a.length) (n := a.length) H hE.cons ha.cons hb.cons has hbs h2 (by omega) (by omega) cl19 (fun i j hi hj => Nat.mod_lt _ h1) (fun i j w L hi hj H hk => CycAt_b (n := a.length) (b := b1) H (hk _ _ (SlAt.here rfl)) h1 (by omega))))) ?_
  rintro _ w ⟨q, c, sl, rfl, ho, H⟩
  refine JL.go trivial (RX.extract rfl rfl) ?_
  refine JL.go trivial (RX.extract (v := errV E (gE (gatL (fun i j => (i + j) % a.length) a b a.length))) rfl rfl) ?_
  refine JL.go trivial (RX.assignv (v := Value.slice _ _ _) rfl) ?_
  refine JL.go trivial (RX.assignv (v := errV E (gE (gatL (fun i j => (i + j) % a.length) a b a.length))) rfl) ?_
  refine JL.nil ?_
  refine J.ret2 (v := Value.slice _ _ _) Tryz.func9 rfl rfl rfl ?_
  rw [e1, e2]
  exact ⟨_, rfl, q, c, sl, rfl, ho, (H.pull 1 rfl).drop⟩
set_option maxHeartbeats 1600000 in
theorem cyclic_e {w0 w : World} {F : List Seg} {E : Nat → Value} {Q : Nat → Addr} (H : Hp w0 w F) (hE : Errs F E Q) {a b : List Int} {pa pb : Option Addr} {ca cb : Nat} (ha : SlAt F pa (i64sV a)) (hb : SlAt F pb (i64sV b)) (has : i64all a) (hbs : i64all b) (h1 : a.length = 0) : Ret Tryz.prog 9 [.slice pa a.length ca, .slice pb b.length cb] w fun v w' => ∃ q c sl, v = .tuple #[.slice q (cycV a b).length c, errV E (cycE a b)] ∧ OwnSl 2 1 q (cycV a b).length c (i64sV (cycV a b)) sl ∧ Hp w0 w' (sl :: F) := by
  refine Calls.of_J (n := 29) Tryz.func9 rfl rfl rfl ?_
  refine J.seq ?_
  have e1 : cycE a b = 7 := if_pos (.inl h1)
  have e2 : cycV a b = [] := if_neg (by rw [e1]; decide)
  refine J.region ?_
  refine JL.go trivial (RX.assign) ?_
  refine JL.go trivial (RX.assign) ?_
  refine JL.nil ?_
  refine J.seq ?_
  refine J.region ?_
  refine JL.go trivial (RX.movev (v := Value.slice _ _ _) rfl) ?_
  refine JL.go trivial (RX.len_slice rfl (by rw [sl22]; rfl) rfl) ?_
  refine JL.does trivial (EX.alloc H zr3 rfl) ?_
  rintro _ w ⟨b1, rfl, H⟩
  refine JL.does trivial (by first | exact EX.store (v := Value.int _ _) H rfl rfl (i := 0) rfl rfl (by simp) sz3 rfl rfl) ?_
  rintro _ w H
  refine JL.nil ?_
  refine J.seq ?_
  refine J.seq ?_
  refine J.region ?_
  refine JL.go trivial (by first | exact RX.load H rfl (i := 0) rfl rfl one3) ?_
  refine JL.go trivial (RX.eq rfl rfl) ?_
  refine JL.go trivial (RX.movev (v := Value.bool _) rfl) ?_
  refine JL.no ⟨_, rfl, gno (decide_eq_true (by omega))⟩ ?_
  refine JL.no ⟨_, rfl, gno (decide_eq_true (by omega))⟩ ?_
  refine JL.go trivial (RX.pick_t rfl (decide_eq_true (by omega))) ?_
  refine JL.go trivial (RX.movev (v := Value.bool _) rfl) ?_
  refine JL.no ⟨_, rfl, gno rfl⟩ ?_
  refine JL.no ⟨_, rfl, gno rfl⟩ ?_
  refine JL.no ⟨_, rfl, gno rfl⟩ ?_
  refine JL.no ⟨_, rfl, gno rfl⟩ ?_
  refine JL.go trivial (RX.pick_t rfl rfl) ?_
  refine JL.nil ?_
  refine J.cond_t rfl rfl ?_
  refine J.seq ?_
  refine J.quietH H hmix (by kernel_rfl) ?_
  refine JQ.go trivial (fun w H => RX.loadG H rfl (hE.at_ 7 (by decide) (by decide)).at_.cons one25) ?_
  refine JQ.go trivial (fun w H => RX.assign) ?_
  refine JQ.go trivial (fun w H => RX.assignv (v := E 7) rfl) ?_
  refine JQ.nil fun w H => ?_
  refine J.ret2 (v := Value.slice _ _ _) Tryz.func9 rfl rfl rfl ?_
  rw [e1, e2]
  exact ⟨_, rfl, none, 0, [], rfl, OwnSl.nil, H.drop.nil⟩
end Nn
end Go.Proofs.YtfpphoapknecfaaGreatDoorBesafter
