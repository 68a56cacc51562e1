/- Numbers of math/big in lists. Convolutions of small numbers by math/big. Linear and Cyclic of two small lists. -/
import Derived.Test.YtfpphoapknecfaaGreatDoorBesafterLa
import Derived.Test.YtfpphoapknecfaaGreatDoorBesafterBj
namespace Go.Proofs.YtfpphoapknecfaaGreatDoorBesafter
open Go Go.Eng
set_option maxRecDepth 100000
set_option linter.unusedVariables false
set_option linter.unusedSimpArgs false
theorem cl16 : callable Tryz.prog 16 = true := by kernel_rfl
theorem cl17 : callable Tryz.prog 17 = true := by kernel_rfl
theorem cl19 : callable Tryz.prog 19 = true := by kernel_rfl
theorem cl21 : callable Tryz.prog 21 = true := by kernel_rfl
theorem cl22 : callable Tryz.prog 22 = true := by kernel_rfl
theorem cl24 : callable Tryz.prog 24 = true := by kernel_rfl
theorem cl25 : callable Tryz.prog 25 = true := by kernel_rfl
theorem cl26 : callable Tryz.prog 26 = true := by kernel_rfl
theorem cl41 : callable Tryz.prog 41 = true := by kernel_rfl
theorem cl42 : callable Tryz.prog 42 = true := by kernel_rfl
theorem one48 : oneOf Tryz.prog 48 = true := by kernel_rfl
theorem sl46 : sliceOf Tryz.prog 46 = some (48, 1) := by kernel_rfl
theorem sz2 : szOf Tryz.prog 2 = some 1 := by kernel_rfl
theorem sz3 : szOf Tryz.prog 3 = some 1 := by kernel_rfl
theorem sz48 : szOf Tryz.prog 48 = some 1 := by kernel_rfl
theorem zr3 : (Tryz.prog.info? 3).bind (·.zero) = some (.int .i64 0) := by kernel_rfl
theorem zr53 : (Tryz.prog.info? 53).bind (·.zero) = some (.agg #[.bool false, .slice none 0 0]) := by kernel_rfl

/-- A big.Int in memory: its block, its value, its words. -/
structure Zn where
  b : Nat
  v : Int
  q : Option Addr
  c : Nat
  sl : Seg
def Zn.seg (z : Zn) : Seg := (z.b, cel (bigV z.v z.q z.c) 53) :: z.sl
def Zn.ok (z : Zn) : Prop := OwnW z.q (wd z.v.natAbs) z.c z.sl
def Zn.p (z : Zn) : Value := .pointer (some ⟨z.b, 0, none⟩)
def Zn.zero (b : Nat) : Zn := ⟨b, 0, none, 0, []⟩
section
variable {w0 w : World} {L : List Seg}
theorem Zn.open_ {z : Zn} (H : Hp w0 w (z.seg :: L)) : Hp w0 w ([(z.b, cel (bigV z.v z.q z.c) 53)] :: z.sl :: L) :=
  Hp.split (s := [(z.b, cel (bigV z.v z.q z.c) 53)]) (t := z.sl) H
theorem Zn.close {b : Nat} {v : Int} {q : Option Addr} {c : Nat} {sl : Seg} (H : Hp w0 w ([(b, cel (bigV v q c) 53)] :: sl :: L)) : Hp w0 w ((Zn.mk b v q c sl).seg :: L) := H.join
theorem Zn.zero_seg (b : Nat) : (Zn.zero b).seg = [(b, cel [.bool false, .slice none 0 0] 53)] := by simp [Zn.seg, Zn.zero, bigV, wd]
theorem Zn.zero_ok (b : Nat) : (Zn.zero b).ok := ownW_nil
theorem Zn.at_ {z : Zn} (h : z.seg ∈ L) (hz : z.ok) : SlAt L (some ⟨z.b, 0, none⟩) (bigV z.v z.q z.c) ∧ SlAt L z.q (u64sV (wd z.v.natAbs)) ∧ (z.b, Obj.cells (bigV z.v z.q z.c).toArray 53 (0, 0)) ∈ L.flatten := by
  have hm : (z.b, Obj.cells (bigV z.v z.q z.c).toArray 53 (0, 0)) ∈ L.flatten := List.mem_flatten.2 ⟨_, h, List.mem_cons_self⟩
  refine ⟨.inr ⟨z.b, 0, _, _, _, rfl, hm, fun j _ => by simp⟩, ?_, hm⟩
  exact SlAt.perm (L := [z.sl]) (OwnSl.slAt hz) fun e he => List.mem_flatten.2 ⟨_, h, List.mem_cons_of_mem _ (by simpa using he)⟩
theorem Zn.ne {z y : Zn} (H : Hp w0 w (z.seg :: L)) (h : y.seg ∈ L) : ¬ z.b = y.b := by
  intro e
  have hn := H.nd
  rw [List.flatten_cons, List.map_append] at hn
  exact (List.nodup_append.1 hn).2.2 z.b (by simp [Zn.seg]) y.b (List.mem_map.2 ⟨_, List.mem_flatten.2 ⟨_, h, List.mem_cons_self⟩, rfl⟩) e
theorem Hp.cut {A B C : List Seg} (H : Hp w0 w (A ++ (B ++ C))) : Hp w0 w (A ++ C) := by
  have : Hp w0 w (B.flatten :: (A ++ C)) := perm_of_flatten H (by
    simp only [List.flatten_append, List.flatten_cons]
    exact List.perm_append_comm_assoc _ _ _)
  exact this.drop
theorem Hp.swap {A B C F : List Seg} (H : Hp w0 w (A ++ (B ++ (C ++ F)))) : Hp w0 w (A ++ (C ++ (B ++ F))) :=
  perm_of_flatten H (by
    simp only [List.flatten_append]
    exact List.Perm.append_left _ (List.perm_append_comm_assoc _ _ _))
theorem Hp.zout {X F : List Seg} {Zs : List Zn} {k : Nat} {z : Zn} (H : Hp w0 w (X ++ (Zs.map Zn.seg ++ F))) (hk : Zs[k]? = some z) : Hp w0 w (z.seg :: (X ++ ((Zs.map Zn.seg).set k [] ++ F))) := by
  have hkl := getE_lt hk
  have h := H.out (i := X.length + k) (s := z.seg) (by rw [List.getElem?_append_right (by omega), Nat.add_sub_cancel_left, List.getElem?_append_left (by simpa using hkl), List.getElem?_map, hk]; rfl)
  rwa [List.set_append_right _ _ (by omega), Nat.add_sub_cancel_left, List.set_append_left _ _ (by simpa using hkl)] at h
theorem Hp.zback {X F : List Seg} {Zs : List Zn} {k : Nat} {z z' : Zn} (H : Hp w0 w (z'.seg :: (X ++ ((Zs.map Zn.seg).set k [] ++ F)))) (hk : Zs[k]? = some z) : Hp w0 w (X ++ ((Zs.set k z').map Zn.seg ++ F)) := by
  have hkl := getE_lt hk
  have h := Hp.back (L := X ++ (Zs.map Zn.seg ++ F)) (i := X.length + k) (s := z.seg) (s' := z'.seg) (by rwa [List.set_append_right _ _ (by omega), Nat.add_sub_cancel_left, List.set_append_left _ _ (by simpa using hkl)])
    (by rw [List.getElem?_append_right (by omega), Nat.add_sub_cancel_left, List.getElem?_append_left (by simpa using hkl), List.getElem?_map, hk]; rfl)
  rwa [List.set_append_right _ _ (by omega), Nat.add_sub_cancel_left, List.set_append_left _ _ (by simpa using hkl), ← List.map_set] at h
theorem mapP_set {Zs : List Zn} {k : Nat} {z z' : Zn} (hk : Zs[k]? = some z) (hb : z'.b = z.b) : (Zs.set k z').map Zn.p = Zs.map Zn.p := by
  rw [List.map_set, show z'.p = z.p by unfold Zn.p; rw [hb]]
  exact set_self (by rw [List.getElem?_map, hk]; rfl)
end
/-- Numbers by their places. -/
def RowZ (Zs : List Zn) (n : Nat) (f : Nat → Int) : Prop := Zs.length = n ∧ ∀ i, i < n → ∃ z, Zs[i]? = some z ∧ z.ok ∧ z.v = f i
theorem RowZ.ext {Zs : List Zn} {n : Nat} {f g : Nat → Int} (h : RowZ Zs n f) (he : ∀ j, j < n → f j = g j) : RowZ Zs n g :=
  ⟨h.1, fun i hi => by obtain ⟨z, h1, h2, h3⟩ := h.2 i hi; exact ⟨z, h1, h2, by rw [h3, he i hi]⟩⟩
theorem RowZ.set {Zs : List Zn} {n k : Nat} {f : Nat → Int} {z' : Zn} (h : RowZ Zs n f) (hz : z'.ok) : RowZ (Zs.set k z') n (fun j => if j = k then z'.v else f j) := by
  refine ⟨by rw [List.length_set, h.1], fun i hi => ?_⟩
  rw [List.getElem?_set]
  by_cases e : k = i
  · subst e; rw [if_pos rfl, if_pos (by rw [h.1]; exact hi)]; exact ⟨z', rfl, hz, by simp⟩
  · obtain ⟨z, h1, h2, h3⟩ := h.2 i hi
    rw [if_neg e]; exact ⟨z, h1, h2, by simp only; rw [if_neg (Ne.symm e)]; exact h3⟩
theorem RowZ.vals {Zs : List Zn} {n : Nat} {f : Nat → Int} (h : RowZ Zs n f) : Zs.map (·.v) = (List.range n).map f := by
  refine List.ext_getElem? fun j => ?_
  rw [List.getElem?_map, List.getElem?_map]
  by_cases hj : j < n
  · obtain ⟨z, h1, _, h3⟩ := h.2 j hj
    rw [h1, List.getElem?_range hj]; simp [h3]
  · rw [List.getElem?_eq_none (by rw [h.1]; omega), List.getElem?_eq_none (by simp; omega)]; rfl
theorem RowZ.oks {Zs : List Zn} {n : Nat} {f : Nat → Int} (h : RowZ Zs n f) : ∀ z ∈ Zs, z.ok := by
  intro z hz
  obtain ⟨i, hi⟩ := List.mem_iff_getElem?.1 hz
  obtain ⟨z', h1, h2, _⟩ := h.2 i (by have := getE_lt hi; rw [h.1] at this; exact this)
  rw [hi] at h1; cases h1; exact h2
theorem RowZ.p_at {Zs : List Zn} {i : Nat} {z : Zn} (h : Zs[i]? = some z) : (Zs.map Zn.p)[i]? = some z.p := by rw [List.getElem?_map, h]; rfl
theorem Errs.sub {F L : List Seg} {E : Nat → Value} {Q : Nat → Addr} (h : Errs F E Q) (hs : ∀ e, e ∈ F.flatten → e ∈ L.flatten) : Errs L E Q := by
  refine ⟨fun i h0 h1 => ?_, fun i h0 h1 => ?_, h.inj⟩
  · obtain ⟨⟨C, T, fz, hm, hc⟩, h2, h3⟩ := h.at_ i h0 h1
    exact ⟨⟨C, T, fz, hs _ hm, hc⟩, h2, h3⟩
  · obtain ⟨h2, C, T, hm⟩ := h.er i h0 h1
    exact ⟨h2, C, T, hs _ hm⟩
theorem mem_app {X F : List Seg} {e : Nat × Obj} (h : e ∈ F.flatten) : e ∈ (X ++ F).flatten := by
  rw [List.flatten_append]; exact List.mem_append_right _ h
theorem rep_snoc {l : List Value} {m n : Nat} {v x : Value} (h : l.length = m) (hn : m < n) : (l ++ List.replicate (n - m) x).set m v = (l ++ [v]) ++ List.replicate (n - (m + 1)) x := by
  subst h
  rw [List.set_append_right _ _ (Nat.le_refl _), Nat.sub_self, show n - l.length = (n - (l.length + 1)) + 1 by omega, List.replicate_succ, List.set_cons_zero, List.append_assoc]; rfl
theorem fnL_rep {α : Type} (x : α) (n : Nat) : fnL (fun _ => x) n = List.replicate n x := by
  induction n with
  | zero => rfl
  | succ n ih =>
    have e : fnL (fun _ => x) (n + 1) = fnL (fun _ => x) n ++ [x] := by simp [fnL, List.range_succ]
    rw [e, ih, List.replicate_succ']
theorem mkZ : Tryz.prog.underlying 46 = some (.slice 48) ∧ ∃ i, Tryz.prog.info? 48 = some i ∧ i.zero = some (.pointer none) ∧ i.size = 1 ∧ i.bytes = 8 := ⟨by kernel_rfl, info_one (by kernel_rfl) (by kernel_rfl)⟩
theorem mkI : Tryz.prog.underlying 22 = some (.slice 2) ∧ ∃ i, Tryz.prog.info? 2 = some i ∧ i.zero = some (.int .i64 0) ∧ i.size = 1 ∧ i.bytes = 8 := ⟨by kernel_rfl, info_one (by kernel_rfl) (by kernel_rfl)⟩
section
variable {w0 w : World} {L : List Seg}
theorem zAdd_b {z y : Zn} (H : Hp w0 w (z.seg :: L)) (hz : z.ok) (hy : y.seg ∈ L) (hyo : y.ok) (hb1 : z.v.natAbs < 1267650600228229401496703205376) (hb2 : y.v.natAbs < 18446744073709551616) : Ret Tryz.prog 24 [z.p, z.p, y.p] w fun u w' => ∃ z' : Zn, u = z.p ∧ z'.b = z.b ∧ z'.v = z.v + y.v ∧ z'.ok ∧ Hp w0 w' (z'.seg :: L) := by
  obtain ⟨h1, h2, _⟩ := Zn.at_ hy hyo
  refine Ret.mono (iAdd_b (Zn.open_ H) hz h1 h2 hyo.spot hyo.le hb1 hb2) ?_
  rintro u w' ⟨q, c, s1, rfl, ho, H⟩
  exact ⟨⟨z.b, z.v + y.v, q, c, s1⟩, rfl, rfl, rfl, ho, Zn.close H⟩
theorem zNeg_b {z y : Zn} (H : Hp w0 w (z.seg :: L)) (hz : z.ok) (hy : y.seg ∈ L) (hyo : y.ok) : Ret Tryz.prog 23 [z.p, y.p] w fun u w' => ∃ z' : Zn, u = z.p ∧ z'.b = z.b ∧ z'.v = -y.v ∧ z'.ok ∧ Hp w0 w' (z'.seg :: L) := by
  obtain ⟨h1, h2, h3⟩ := Zn.at_ hy hyo
  refine Ret.mono (iNeg_b (Zn.open_ H) hz h1 h2 hyo.spot hyo.le h3 (Zn.ne H hy)) ?_
  rintro u w' ⟨q, c, s1, rfl, ho, H⟩
  exact ⟨⟨z.b, -y.v, q, c, s1⟩, rfl, rfl, rfl, ho, Zn.close H⟩
theorem zMul_b {z x y : Zn} (H : Hp w0 w (z.seg :: L)) (hz : z.ok) (hx : x.seg ∈ L) (hxo : x.ok) (hy : y.seg ∈ L) (hyo : y.ok) (hne : ¬ x.b = y.b) (hx1 : 0 < x.v) (hx2 : x.v < 4294967296) (hy1 : 0 < y.v) (hy2 : y.v < 4294967296) :
    Ret Tryz.prog 26 [z.p, x.p, y.p] w fun u w' => ∃ z' : Zn, u = z.p ∧ z'.b = z.b ∧ z'.v = x.v * y.v ∧ z'.ok ∧ Hp w0 w' (z'.seg :: L) := by
  obtain ⟨h1, h2, h3⟩ := Zn.at_ hx hxo
  obtain ⟨k1, k2, k3⟩ := Zn.at_ hy hyo
  obtain ⟨a, ha⟩ : ∃ a : Nat, x.v = (a : Int) := ⟨x.v.toNat, by omega⟩
  obtain ⟨b, hb⟩ : ∃ b : Nat, y.v = (b : Int) := ⟨y.v.toNat, by omega⟩
  rw [ha] at h1 h2 h3 hx1 hx2
  rw [hb] at k1 k2 k3 hy1 hy2
  refine Ret.mono (iMul_b (Zn.open_ H) hz h1 k1 h2 k2 h3 k3 hne (by omega) (by omega) (by omega) (by omega)) ?_
  rintro u w' ⟨q, c, s1, rfl, ho, H⟩
  exact ⟨⟨z.b, ((a * b : Nat) : Int), q, c, s1⟩, rfl, rfl, by rw [ha, hb]; simp, ho, Zn.close H⟩
theorem zNew_b {v : Int} (H : Hp w0 w L) (hv : v.natAbs ≤ 9223372036854775808) : Ret Tryz.prog 22 [.int .i64 v] w fun u w' => ∃ z : Zn, u = z.p ∧ z.v = v ∧ z.ok ∧ Hp w0 w' (z.seg :: L) := by
  refine Ret.mono (NewInt_b H hv) ?_
  rintro u w' ⟨b, q, c, sl, rfl, ho, H⟩
  exact ⟨⟨b, v, q, c, sl⟩, rfl, rfl, ho, Zn.close H⟩
theorem zAddAt_b {X F : List Seg} {Zs : List Zn} {k : Nat} {z y : Zn} (H : Hp w0 w (X ++ (Zs.map Zn.seg ++ F))) (hk : Zs[k]? = some z) (hz : z.ok) (hy : y.seg ∈ X) (hyo : y.ok) (hb1 : z.v.natAbs < 1267650600228229401496703205376) (hb2 : y.v.natAbs < 18446744073709551616) :
    Ret Tryz.prog 24 [z.p, z.p, y.p] w fun u w' => ∃ z' : Zn, u = z.p ∧ z'.b = z.b ∧ z'.v = z.v + y.v ∧ z'.ok ∧ Hp w0 w' (X ++ ((Zs.set k z').map Zn.seg ++ F)) := by
  refine Ret.mono (zAdd_b (Hp.zout H hk) hz (List.mem_append_left _ hy) hyo hb1 hb2) ?_
  rintro u w' ⟨z', rfl, h1, h2, h3, H⟩
  exact ⟨z', rfl, h1, h2, h3, Hp.zback H hk⟩
theorem hp_snoc {row : Seg} {z : Zn} {Zs : List Zn} {F : List Seg} (H : Hp w0 w (row :: z.seg :: (Zs.map Zn.seg ++ F))) : Hp w0 w (row :: ((Zs ++ [z]).map Zn.seg ++ F)) :=
  perm_of_flatten H (by
    simp only [List.flatten_cons, List.flatten_append, List.map_append, List.map_cons, List.map_nil, List.flatten_nil, List.append_nil, List.append_assoc]
    exact List.Perm.append_left _ (List.perm_append_comm_assoc _ _ _))
end

set_option maxHeartbeats 1600000 in
theorem none_b {w0 w : World} {F : List Seg} (H : Hp w0 w F) {n : Nat} (hn : n ≤ 1048576) : Ret Tryz.prog 21 [.int .i64 ((n : Nat) : Int)] w fun v w' => ∃ bo Zs, v = .slice (some ⟨bo, 0, none⟩) n n ∧ RowZ Zs n (fun _ => 0) ∧ Hp w0 w' ([(bo, cel ((Zs).map Zn.p) 48)] :: (Zs.map Zn.seg ++ F)) := by
  refine Calls.of_J (n := 18) Tryz.func21 rfl rfl rfl ?_
  refine J.seq ?_
  refine J.region ?_
  refine JL.go trivial (RX.assign) ?_
  refine JL.nil ?_
  refine J.seq ?_
  refine J.region ?_
  refine JL.go trivial (RX.movev (v := Value.int _ _) rfl) ?_
  refine JL.does trivial (EX.makeS (e := 48) (m := n) H mkZ.1 mkZ.2 rfl rfl rfl (by omega) (by omega) (by omega)) ?_
  rintro _ w ⟨bo, rfl, H⟩
  rw [fnL_rep] at H
  refine JL.go trivial (RX.assignv (v := Value.slice _ _ _) rfl) ?_
  refine JL.nil ?_
  refine J.seq ?_
  refine J.seq ?_
  refine J.region ?_
  refine JL.go trivial (RX.movev (v := Value.slice _ _ _) rfl) ?_
  refine JL.go trivial (RX.len_slice rfl (by rw [sl46]; rfl) rfl) ?_
  refine JL.go trivial (RX.move) ?_
  refine JL.nil ?_
  refine J.block ?_
  refine J.loop (ι := Nat × List Zn) (S := fun z => [(9, .int .i64 ((z.1 : Nat) : Int))]) (Φ := fun z w => z.1 ≤ n ∧ RowZ z.2 z.1 (fun _ => 0) ∧ Hp w0 w ([(bo, cel (z.2.map Zn.p ++ List.replicate (n - z.1) (.pointer none)) 48)] :: (z.2.map Zn.seg ++ F))) (μ := fun z => n - z.1) (C := [(3, _), (8, _)]) (0, []) ⟨rfl, rfl, trivial⟩ ⟨rfl, trivial⟩ ?_ ?_
  · exact ⟨by simp, ⟨rfl, fun i hi => by simp at hi⟩, H⟩
  clear H
  rintro ⟨i, Zs⟩ ρ w ⟨hi, hz, H⟩ IH
  simp only at hi hz H
  dsimp only
  refine J.seq ?_
  refine J.region ?_
  refine JL.go trivial (RX.lt rfl rfl) ?_
  refine JL.nil ?_
  refine J.seq ?_
  refine J.cond_d rfl (fun hlt => ?_) (fun hlt => ?_)
  · skip
    refine J.skip ?_
    refine J.seq ?_
    refine J.block ?_
    refine J.seq ?_
    refine J.region ?_
    refine JL.go trivial (RX.movev (v := Value.int _ _) rfl) ?_
    refine JL.go trivial (RX.assignv (v := Value.int _ _) rfl) ?_
    refine JL.nil ?_
    refine J.region ?_
    refine JL.go trivial (RX.movev (v := Value.slice _ _ _) rfl) ?_
    refine JL.go trivial (RX.movev (v := Value.int _ _) rfl) ?_
    refine JL.does trivial (EX.alloc H zr53 rfl) ?_
    rintro _ w ⟨bz, rfl, H⟩
    refine JL.go trivial (RX.indexAddr rfl rfl sl46 (by omega) (by omega) (o' := i) (by omega)) ?_
    refine JL.does trivial (EX.store (v := Value.pointer _) H rfl rfl (i := 1) rfl rfl (by simp; have := hz.1; omega) sz48 rfl rfl) ?_
    rintro _ w H
    refine JL.nil ?_
    refine J.inBlock ?_
    refine J.region ?_
    refine JL.go trivial (RX.add rfl rfl (wi (n := i + 1) (by omega) (by omega))) ?_
    refine JL.go trivial (RX.movev (v := Value.int _ _) rfl) ?_
    refine JL.nil ?_
    have hr := rep_snoc (l := Zs.map Zn.p) (m := i) (n := n) (v := .pointer (some ⟨bz, 0, none⟩)) (x := .pointer none) (by simp [hz.1]) (by omega)
    simp only [List.set_cons_succ, List.set_cons_zero] at H
    rw [hr, ← Zn.zero_seg] at H
    have H2 := hp_snoc (H.pull 1 rfl)
    refine IH (i + 1, Zs ++ [Zn.zero bz]) _ _ (by simp only; omega) ⟨rfl, rfl, trivial⟩ ⟨rfl, trivial⟩ ⟨by simp only; omega, ⟨by simp [hz.1], fun j hj => ?_⟩, by simp only; rw [show (Zs ++ [Zn.zero bz]).map Zn.p = Zs.map Zn.p ++ [Value.pointer (some ⟨bz, 0, none⟩)] by rw [List.map_append]; rfl]; exact H2⟩
    by_cases e : j < i
    · obtain ⟨z, h1, h2, h3⟩ := hz.2 j e
      exact ⟨z, by rw [List.getElem?_append_left (getE_lt h1)]; exact h1, h2, h3⟩
    · obtain rfl : j = i := by simp only at hj; omega
      exact ⟨Zn.zero bz, by rw [List.getElem?_append_right (by rw [hz.1]; exact Nat.le_refl _), hz.1]; simp, Zn.zero_ok _, rfl⟩
  · skip
    refine J.exit rfl ?_
    refine J.seq ?_
    refine J.region ?_
    refine JL.go trivial (RX.movev (v := Value.slice _ _ _) rfl) ?_
    refine JL.go trivial (RX.assignv (v := Value.slice _ _ _) rfl) ?_
    refine JL.nil ?_
    refine J.ret1 (v := Value.slice _ _ _) Tryz.func21 rfl rfl ?_
    obtain rfl : i = n := by omega
    rw [Nat.sub_self, List.replicate_zero, List.append_nil] at H
    exact ⟨_, rfl, bo, Zs, rfl, hz, H⟩
set_option maxHeartbeats 1600000 in
theorem whole_b {w0 w : World} {L : List Seg} {E : Nat → Value} {Q : Nat → Addr} (H : Hp w0 w L) (hE : Errs L E Q) {Zs : List Zn} {p : Option Addr} {c : Nat} (hs : SlAt L p (Zs.map Zn.p)) (hm : ∀ z ∈ Zs, z.seg ∈ L) (ho : ∀ z ∈ Zs, z.ok) (hn : Zs.length ≤ 1048576) : Ret Tryz.prog 25 [.slice p Zs.length c] w fun v w' => ((∀ z ∈ Zs, i64in z.v) ∧ ∃ b, v = .tuple #[.slice (some ⟨b, 0, none⟩) Zs.length Zs.length, .nilIface] ∧ Hp w0 w' ([(b, cel (i64sV (Zs.map (·.v))) 2)] :: L)) ∨ ((¬ ∀ z ∈ Zs, i64in z.v) ∧ v = .tuple #[.slice none 0 0, E 19] ∧ Hp w0 w' L) := by
  refine Calls.of_J (n := 28) Tryz.func25 rfl rfl rfl ?_
  refine J.seq ?_
  refine J.region ?_
  refine JL.go trivial (RX.assign) ?_
  refine JL.go trivial (RX.assign) ?_
  refine JL.nil ?_
  refine J.seq ?_
  refine J.region ?_
  refine JL.go trivial (RX.movev (v := Value.slice _ _ _) rfl) ?_
  refine JL.go trivial (RX.len_slice rfl (by rw [sl46]; rfl) rfl) ?_
  refine JL.does trivial (EX.makeS (e := 2) (m := Zs.length) H mkI.1 mkI.2 rfl rfl rfl (by omega) (by omega) (by omega)) ?_
  rintro _ w ⟨bo, rfl, H⟩
  rw [fnL_rep] at H
  refine JL.go trivial (RX.assignv (v := Value.slice _ _ _) rfl) ?_
  refine JL.nil ?_
  refine J.seq ?_
  refine J.seq ?_
  refine J.region ?_
  refine JL.go trivial (RX.movev (v := Value.slice _ _ _) rfl) ?_
  refine JL.go trivial (RX.len_slice rfl (by rw [sl46]; rfl) rfl) ?_
  refine JL.go trivial (RX.move) ?_
  refine JL.nil ?_
  refine J.block ?_
  refine J.loop (ι := Nat) (S := fun i => [(12, .int .i64 ((i : Nat) : Int))]) (Φ := fun i w => i ≤ Zs.length ∧ (∀ j z, j < i → Zs[j]? = some z → i64in z.v) ∧ Hp w0 w ([(bo, cel (i64sV ((Zs.map (·.v)).take i) ++ List.replicate (Zs.length - i) (.int .i64 0)) 2)] :: L)) (μ := fun i => Zs.length - i) (C := [(4, _), (10, _), (11, _)]) 0 ⟨rfl, rfl, rfl, trivial⟩ ⟨rfl, trivial⟩ ?_ ?_
  · exact ⟨by omega, fun j z h => by omega, H⟩
  clear H
  rintro i ρ w ⟨hi, hin, H⟩ IH
  refine J.seq ?_
  refine J.region ?_
  refine JL.go trivial (RX.lt rfl rfl) ?_
  refine JL.nil ?_
  refine J.seq ?_
  refine J.cond_d rfl (fun hlt => ?_) (fun hlt => ?_)
  · skip
    obtain ⟨z, hz⟩ : ∃ z, Zs[i]? = some z := ⟨_, List.getElem?_eq_getElem (by omega)⟩
    have hzm := List.mem_of_getElem? hz
    obtain ⟨h1, h2, _⟩ := Zn.at_ (hm z hzm) (ho z hzm)
    obtain ⟨pb, po, rfl, hpp⟩ := hs.some (by simp; omega)
    refine J.skip ?_
    refine J.seq ?_
    refine J.block ?_
    refine J.seq ?_
    refine J.region ?_
    refine JL.go trivial (RX.movev (v := Value.int _ _) rfl) ?_
    refine JL.go trivial (RX.indexAddr rfl rfl sl46 (by omega) (by omega) (o' := po + i) (by omega)) ?_
    refine JL.go trivial (RX.loadS H hs.cons rfl (j := i) rfl (v := z.p) (RowZ.p_at hz) one48) ?_
    refine JL.go trivial (RX.assignv (v := Value.int _ _) rfl) ?_
    refine JL.go trivial (RX.assignv (v := z.p) rfl) ?_
    refine JL.nil ?_
    refine J.seq ?_
    refine J.seq ?_
    refine J.region ?_
    refine JL.go trivial (RX.movev (v := z.p) rfl) ?_
    refine JL.does trivial (EX.call rfl cl41 rfl ((isInt64_b H h1.cons h2.cons))) ?_
    rintro _ w ⟨rfl, H⟩
    refine JL.go trivial (RX.not rfl) ?_
    refine JL.nil ?_
    refine J.cond rfl (fun hni => ?_) (fun hni => ?_)
    · skip
      have hno : ¬ i64in z.v := by simpa using hni
      refine J.seq ?_
      refine J.quietH H hmix (by kernel_rfl) ?_
      refine JQ.go trivial (fun w H => RX.loadG H rfl (hE.cons.at_ 19 (by decide) (by decide)).at_ one25) ?_
      refine JQ.go trivial (fun w H => RX.assign) ?_
      refine JQ.go trivial (fun w H => RX.assignv (v := E 19) rfl) ?_
      refine JQ.nil fun w H => ?_
      refine J.ret2 (v := Value.slice _ _ _) Tryz.func25 rfl rfl rfl ?_
      exact ⟨_, rfl, .inr ⟨fun h => hno (h z hzm), rfl, H.drop⟩⟩
    · skip
      have hyes : i64in z.v := by simpa using hni
      refine J.skip ?_
      refine J.region ?_
      refine JL.go trivial (RX.movev (v := Value.slice _ _ _) rfl) ?_
      refine JL.go trivial (RX.movev (v := Value.int _ _) rfl) ?_
      refine JL.go trivial (RX.movev (v := z.p) rfl) ?_
      refine JL.does trivial (EX.call rfl cl42 rfl ((int64_b H h1.cons h2.cons hyes))) ?_
      rintro _ w ⟨rfl, H⟩
      refine JL.go trivial (RX.indexAddr rfl rfl sl22 (by omega) (by omega) (o' := i) (by omega)) ?_
      refine JL.does trivial (EX.store (v := Value.int _ _) H rfl rfl (i := 0) rfl rfl (by simp [i64sV]; omega) sz2 rfl rfl) ?_
      rintro _ w H
      refine JL.nil ?_
      refine J.inBlock ?_
      refine J.region ?_
      refine JL.go trivial (RX.add rfl rfl (wi (n := i + 1) (by omega) (by omega))) ?_
      refine JL.go trivial (RX.movev (v := Value.int _ _) rfl) ?_
      refine JL.nil ?_
      have hzv : (Zs.map (·.v))[i]? = some z.v := by rw [List.getElem?_map, hz]; rfl
      have hr := rep_snoc (l := i64sV ((Zs.map (·.v)).take i)) (m := i) (n := Zs.length) (v := .int .i64 z.v) (x := .int .i64 0) (by simp [i64sV]; omega) (by omega)
      simp only [List.set_cons_zero] at H
      rw [hr, show i64sV ((Zs.map (·.v)).take i) ++ [.int .i64 z.v] = i64sV ((Zs.map (·.v)).take (i + 1)) by rw [take_succ_get hzv]; simp [i64sV]] at H
      refine IH (i + 1) _ _ (by omega) ⟨rfl, rfl, rfl, trivial⟩ ⟨rfl, trivial⟩ ⟨by omega, fun j y hj hy => ?_, H⟩
      by_cases e : j = i
      · subst e; rw [hz] at hy; cases hy; exact hyes
      · exact hin j y (by omega) hy
  · skip
    refine J.exit rfl ?_
    refine J.seq ?_
    refine J.region ?_
    refine JL.go trivial (RX.movev (v := Value.slice _ _ _) rfl) ?_
    refine JL.go trivial (RX.assignv (v := Value.slice _ _ _) rfl) ?_
    refine JL.go trivial (RX.assign) ?_
    refine JL.nil ?_
    refine J.ret2 (v := Value.slice _ _ _) Tryz.func25 rfl rfl rfl ?_
    obtain rfl : i = Zs.length := by omega
    rw [Nat.sub_self, List.replicate_zero, List.append_nil, List.take_of_length_le (by simp)] at H
    refine ⟨_, rfl, .inl ⟨fun z hz => ?_, bo, rfl, H⟩⟩
    obtain ⟨j, hj⟩ := List.mem_iff_getElem?.1 hz
    exact hin j z (getE_lt hj) hj
def accI (kf : Nat → Nat) (f : Nat → Int) (Z : Nat → Int) : Nat → Nat → Int
  | 0 => Z
  | j + 1 => fun i => if i = kf j then accI kf f Z j i + f j else accI kf f Z j i
def accO (kf : Nat → Nat → Nat) (f : Nat → Nat → Int) (m : Nat) : Nat → Nat → Int
  | 0 => fun _ => 0
  | i + 1 => accI (kf i) (f i) (accO kf f m i) m
/-- The products of two lists. -/
def prodE (us vs : List Int) (i j : Nat) : Int := (us[i]?).getD 0 * (vs[j]?).getD 0
def gatL (kf : Nat → Nat → Nat) (us vs : List Int) (n : Nat) : List Int := (List.range n).map (accO kf (prodE us vs) vs.length us.length)
theorem i64sV_range {n : Nat} {f : Nat → Int} : (i64sV ((List.range n).map f)).length = n := by simp [i64sV]

set_option maxHeartbeats 1600000 in
theorem gather_b {w0 w : World} {F : List Seg} {E : Nat → Value} {Q : Nat → Addr} (H : Hp w0 w F) (hE : Errs F E Q) {us vs : List Int} {pa pb : Option Addr} {ca cb : Nat} (hsa : SlAt F pa (i64sV us)) (hsb : SlAt F pb (i64sV vs)) (has : ∀ u ∈ us, 0 < u ∧ u < 4294967296) (hbs : ∀ u ∈ vs, 0 < u ∧ u < 4294967296) (hla : us.length ≤ 1048576) (hlb : vs.length ≤ 1048576) {n cl : Nat} {cv : List Value} {kf : Nat → Nat → Nat} (hn : n ≤ 1048576) (hcl : callable Tryz.prog cl = true) (hkf : ∀ i j, i < us.length → j < vs.length → kf i j < n) (hat : ∀ (i j : Nat) (w : World) (L : List Seg), i < us.length → j < vs.length → Hp w0 w L → (∀ p xs, SlAt F p xs → SlAt L p xs) → Ret Tryz.prog cl (.int .i64 ((i : Nat) : Int) :: .int .i64 ((j : Nat) : Int) :: cv) w fun v w' => v = .int .i64 ((kf i j : Nat) : Int) ∧ Hp w0 w' L) (hB : ∀ i j k, i < us.length → j ≤ vs.length → k < n → (accI (kf i) (prodE us vs i) (accO kf (prodE us vs) vs.length i) j k).natAbs < 1267650600228229401496703205376) (hI : ∀ k, k < n → i64in (accO kf (prodE us vs) vs.length us.length k)) : Ret Tryz.prog 16 [.slice pa us.length ca, .slice pb vs.length cb, .int .i64 ((n : Nat) : Int), .func (.func cl) #[] cv.toArray] w fun v w' => ∃ b, v = .tuple #[.slice (some ⟨b, 0, none⟩) n n, .nilIface] ∧ Hp w0 w' ([(b, cel (i64sV (gatL kf us vs n)) 2)] :: F) := by
  refine Calls.of_J (n := 60) Tryz.func16 rfl rfl rfl ?_
  refine J.seq ?_
  refine J.region ?_
  refine JL.go trivial (RX.assign) ?_
  refine JL.go trivial (RX.assign) ?_
  refine JL.nil ?_
  refine J.seq ?_
  refine J.region ?_
  refine JL.go trivial (RX.movev (v := Value.int _ _) rfl) ?_
  refine JL.does trivial (EX.call rfl cl21 rfl ((none_b H hn))) ?_
  rintro _ w ⟨bo, Zs, rfl, hZ, H⟩
  refine JL.go trivial (RX.assignv (v := Value.slice _ _ _) rfl) ?_
  refine JL.nil ?_
  refine J.seq ?_
  refine J.region ?_
  refine JL.does trivial (EX.alloc H zr53 rfl) ?_
  rintro _ w ⟨bx, rfl, H⟩
  replace H : Hp w0 w ((Zn.zero bx).seg :: [(bo, cel ((Zs).map Zn.p) 48)] :: (Zs.map Zn.seg ++ F)) := by rw [Zn.zero_seg]; exact H
  refine JL.go trivial (RX.assignv (v := Value.pointer _) rfl) ?_
  refine JL.nil ?_
  refine J.seq ?_
  refine J.seq ?_
  refine J.region ?_
  refine JL.go trivial (RX.movev (v := Value.slice _ _ _) rfl) ?_
  refine JL.go trivial (RX.len_slice rfl (by rw [sl22]; rfl) rfl) ?_
  refine JL.go trivial (RX.move) ?_
  refine JL.nil ?_
  refine J.block ?_
  refine J.loop (ι := Nat × List Zn × Zn) (S := fun z => [(22, .int .i64 ((z.1 : Nat) : Int))]) (Φ := fun z w => z.1 ≤ us.length ∧ RowZ z.2.1 n (accO kf (prodE us vs) vs.length z.1) ∧ z.2.2.ok ∧ z.2.2.b = bx ∧ Hp w0 w (z.2.2.seg :: [(bo, cel ((z.2.1).map Zn.p) 48)] :: (z.2.1.map Zn.seg ++ F))) (μ := fun z => us.length - z.1) (C := [(1, _), (3, _), (10, _), (11, _), (20, _), (21, _)]) (0, Zs, Zn.zero bx) ⟨rfl, rfl, rfl, rfl, rfl, rfl, trivial⟩ ⟨rfl, trivial⟩ ?_ ?_
  · exact ⟨by simp, hZ, Zn.zero_ok _, rfl, H⟩
  clear H hZ
  rintro ⟨i, Zs, x⟩ ρ w ⟨hi, hZ, hx, hxb, H⟩ IH
  simp only at hi hZ hx hxb H
  dsimp only
  refine J.seq ?_
  refine J.region ?_
  refine JL.go trivial (RX.lt rfl rfl) ?_
  refine JL.nil ?_
  refine J.seq ?_
  refine J.cond_d rfl (fun hilt => ?_) (fun hilt => ?_)
  · skip
    obtain ⟨u, hu⟩ : ∃ u, us[i]? = some u := ⟨_, List.getElem?_eq_getElem (by omega)⟩
    obtain ⟨hu1, hu2⟩ := has u (List.mem_of_getElem? hu)
    obtain ⟨qa, oa, rfl, hqa⟩ := hsa.some (by rw [i64sV_len]; omega)
    have hFL : ∀ {X F : List Seg} {p : Option Addr} {xs : List Value}, SlAt F p xs → SlAt (X ++ F) p xs := fun h => h.perm fun e he => mem_app he
    refine J.skip ?_
    refine J.seq ?_
    refine J.block ?_
    refine J.seq ?_
    refine J.region ?_
    refine JL.go trivial (RX.movev (v := Value.int _ _) rfl) ?_
    refine JL.go trivial (RX.indexAddr rfl rfl sl22 (by omega) (by omega) (o' := oa + i) (by omega)) ?_
    refine JL.go trivial (RX.loadS H (hFL (X := x.seg :: [(bo, cel ((Zs).map Zn.p) 48)] :: Zs.map Zn.seg) hsa) rfl (j := i) rfl (v := .int .i64 u) (i64sV_get hu) one2) ?_
    refine JL.go trivial (RX.assignv (v := Value.int _ _) rfl) ?_
    refine JL.go trivial (RX.assignv (v := Value.int _ _) rfl) ?_
    refine JL.nil ?_
    refine J.seq ?_
    refine J.region ?_
    refine JL.go trivial (RX.movev (v := Value.slice _ _ _) rfl) ?_
    refine JL.go trivial (RX.len_slice rfl (by rw [sl22]; rfl) rfl) ?_
    refine JL.go trivial (RX.move) ?_
    refine JL.nil ?_
    refine J.block ?_
    refine J.loop (ι := Nat × List Zn × Zn) (S := fun z => [(29, .int .i64 ((z.1 : Nat) : Int))]) (Φ := fun z w => z.1 ≤ vs.length ∧ RowZ z.2.1 n (accI (kf i) (prodE us vs i) (accO kf (prodE us vs) vs.length i) z.1) ∧ z.2.2.ok ∧ z.2.2.b = bx ∧ Hp w0 w (z.2.2.seg :: [(bo, cel ((z.2.1).map Zn.p) 48)] :: (z.2.1.map Zn.seg ++ F))) (μ := fun z => vs.length - z.1) (C := [(1, _), (3, _), (10, _), (11, _), (12, _), (13, _), (20, _), (21, _), (22, _), (27, _), (28, _)]) (0, Zs, x) ⟨rfl, rfl, rfl, rfl, rfl, rfl, rfl, rfl, rfl, rfl, rfl, trivial⟩ ⟨rfl, trivial⟩ ?_ ?_
    · exact ⟨by simp, hZ, hx, hxb, H⟩
    clear H hZ hx hxb
    rintro ⟨j, Zs, x⟩ ρ w ⟨hj, hZ, hx, hxb, H⟩ IH2
    simp only at hj hZ hx hxb H
    dsimp only
    refine J.seq ?_
    refine J.region ?_
    refine JL.go trivial (RX.lt rfl rfl) ?_
    refine JL.nil ?_
    refine J.seq ?_
    refine J.cond_d rfl (fun hjlt => ?_) (fun hjlt => ?_)
    · skip
      obtain ⟨v, hv⟩ : ∃ v, vs[j]? = some v := ⟨_, List.getElem?_eq_getElem (by omega)⟩
      obtain ⟨hv1, hv2⟩ := hbs v (List.mem_of_getElem? hv)
      obtain ⟨qb, ob, rfl, hqb⟩ := hsb.some (by rw [i64sV_len]; omega)
      refine J.skip ?_
      refine J.seq ?_
      refine J.block ?_
      refine J.seq ?_
      refine J.region ?_
      refine JL.go trivial (RX.movev (v := Value.int _ _) rfl) ?_
      refine JL.go trivial (RX.indexAddr rfl rfl sl22 (by omega) (by omega) (o' := ob + j) (by omega)) ?_
      refine JL.go trivial (RX.loadS H (hFL (X := x.seg :: [(bo, cel ((Zs).map Zn.p) 48)] :: Zs.map Zn.seg) hsb) rfl (j := j) rfl (v := .int .i64 v) (i64sV_get hv) one2) ?_
      refine JL.go trivial (RX.assignv (v := Value.int _ _) rfl) ?_
      refine JL.go trivial (RX.assignv (v := Value.int _ _) rfl) ?_
      refine JL.nil ?_
      refine J.seq ?_
      refine J.region ?_
      refine JL.go trivial (RX.movev (v := x.p) (by rw [show x.p = .pointer (some ⟨x.b, 0, none⟩) from rfl, hxb]; rfl)) ?_
      refine JL.go trivial (RX.movev (v := Value.int _ _) rfl) ?_
      refine JL.does trivial (EX.call rfl cl22 rfl ((zNew_b H (by omega)))) ?_
      rintro _ w ⟨z1, rfl, hz1, ho1, H⟩
      refine JL.go trivial (RX.movev (v := Value.int _ _) rfl) ?_
      refine JL.does trivial (EX.call rfl cl22 rfl ((zNew_b H (by omega)))) ?_
      rintro _ w ⟨z2, rfl, hz2, ho2, H⟩
      refine JL.does trivial (EX.call rfl cl26 rfl ((zMul_b (H.pull 2 rfl) hx (x := z1) (y := z2) (by simp) ho1 (by simp) ho2 (fun e => Zn.ne H (by simp) e.symm) (by omega) (by omega) (by omega) (by omega)))) ?_
      rintro _ w ⟨x1, rfl, hx1b, hx1v, hx1, H⟩
      replace H := (H.pull 1 rfl).drop
      replace H := (H.pull 1 rfl).drop
      have hxv : x1.v = prodE us vs i j := by rw [hx1v, hz1, hz2]; simp [prodE, hu, hv]
      refine JL.nil ?_
      refine J.seq ?_
      refine J.region ?_
      refine JL.go trivial (RX.movev (v := .func _ _ _) rfl) ?_
      refine JL.go trivial (RX.movev (v := Value.int _ _) rfl) ?_
      refine JL.go trivial (RX.movev (v := Value.int _ _) rfl) ?_
      refine JL.does trivial (EX.callv (f := cl) (fv := []) (cv := cv) rfl hcl rfl rfl (hat i j w _ (by omega) (by omega) H (fun p xs h => hFL (X := x1.seg :: [(bo, cel ((Zs).map Zn.p) 48)] :: Zs.map Zn.seg) h))) ?_
      rintro _ w ⟨rfl, H⟩
      refine JL.go trivial (RX.assignv (v := Value.int _ _) rfl) ?_
      refine JL.nil ?_
      have hkn := hkf i j (by omega) (by omega)
      obtain ⟨z, hzk, hzo, hzv⟩ := hZ.2 (kf i j) hkn
      have hzl : Zs.length = n := hZ.1
      refine J.any hmix fun w hs => ?_
      replace H := H.same hs; clear hs
      refine JA.stage (listed := [false, false, false, false, false, false, false, false, false, false]) 9 [0, 1, 2, 3, 4, 5, 6, 7, 8] H (by kernel_rfl) rfl rfl ?_
      refine JI.go rfl trivial (fun w H => RX.movev (v := Value.slice _ _ _) rfl) ?_
      refine JI.go rfl trivial (fun w H => RX.movev (v := Value.int _ _) rfl) ?_
      refine JI.go rfl trivial (fun w H => RX.indexAddr rfl rfl sl46 (by omega) (by omega) (o' := kf i j) (by omega)) ?_
      refine JI.go rfl trivial (fun w H => RX.load H rfl (i := 1) (v := z.p) rfl (RowZ.p_at hzk) one48) ?_
      refine JI.go rfl trivial (fun w H => RX.movev (v := Value.slice _ _ _) rfl) ?_
      refine JI.go rfl trivial (fun w H => RX.movev (v := Value.int _ _) rfl) ?_
      refine JI.go rfl trivial (fun w H => RX.indexAddr rfl rfl sl46 (by omega) (by omega) (o' := kf i j) (by omega)) ?_
      refine JI.go rfl trivial (fun w H => RX.load H rfl (i := 1) (v := z.p) rfl (RowZ.p_at hzk) one48) ?_
      refine JI.go rfl trivial (fun w H => RX.movev (v := x1.p) (by rw [show x1.p = .pointer (some ⟨x1.b, 0, none⟩) from rfl, hx1b, hxb]; rfl)) ?_
      refine JI.nil fun w H => ?_
      refine JL.does trivial (EX.call rfl cl24 rfl ((zAddAt_b (X := [x1.seg, [(bo, cel ((Zs).map Zn.p) 48)]]) H hzk hzo (by simp) hx1 (by rw [hzv]; exact hB i j _ (by omega) (by omega) hkn) (by rw [hx1v, hz1, hz2, Int.natAbs_mul]; exact mul_lt32 (by omega) (by omega))))) ?_
      rintro _ w ⟨z3, rfl, hz3b, hz3v, hz3, H⟩
      rw [← mapP_set hzk hz3b] at H
      refine JL.nil ?_
      refine J.inBlock ?_
      refine J.region ?_
      refine JL.go trivial (RX.add rfl rfl (wi (n := j + 1) (by omega) (by omega))) ?_
      refine JL.go trivial (RX.movev (v := Value.int _ _) rfl) ?_
      refine JL.nil ?_
      refine IH2 (j + 1, Zs.set (kf i j) z3, x1) _ _ (by simp only; omega) ⟨rfl, rfl, rfl, rfl, rfl, rfl, rfl, rfl, rfl, rfl, rfl, trivial⟩ ⟨rfl, trivial⟩ ⟨by simp only; omega, (hZ.set hz3).ext fun k hk => ?_, hx1, hx1b.trans hxb, H⟩
      simp only [accI]
      by_cases e : k = kf i j
      · subst e; rw [if_pos rfl, if_pos rfl, hz3v, hzv, hxv]
      · rw [if_neg e, if_neg e]
    · skip
      obtain rfl : j = vs.length := by omega
      refine J.exit rfl ?_
      refine J.inBlock ?_
      refine J.region ?_
      refine JL.go trivial (RX.add rfl rfl (wi (n := i + 1) (by omega) (by omega))) ?_
      refine JL.go trivial (RX.movev (v := Value.int _ _) rfl) ?_
      refine JL.nil ?_
      exact IH (i + 1, Zs, x) _ _ (by simp only; omega) ⟨rfl, rfl, rfl, rfl, rfl, rfl, trivial⟩ ⟨rfl, trivial⟩ ⟨by simp only; omega, hZ, hx, hxb, H⟩
  · skip
    obtain rfl : i = us.length := by omega
    have hzl : Zs.length = n := hZ.1
    refine J.exit rfl ?_
    refine J.seq ?_
    refine J.region ?_
    refine JL.go trivial (RX.movev (v := Value.slice _ _ _) rfl) ?_
    refine JL.does trivial (EX.call rfl cl25 rfl ((show Ret _ _ [.slice (some ⟨bo, 0, none⟩) n n] w _ by rw [← hzl]; exact whole_b H (hE.sub fun e he => mem_app (X := x.seg :: [(bo, cel ((Zs).map Zn.p) 48)] :: Zs.map Zn.seg) he) (SlAt.cons (SlAt.here List.take_length)) (fun z hz => List.mem_cons_of_mem _ (List.mem_cons_of_mem _ (List.mem_append_left _ (List.mem_map_of_mem hz)))) hZ.oks (by omega)))) ?_
    rintro uu w hW
    replace hW : ∃ b, uu = Value.tuple #[.slice (some ⟨b, 0, none⟩) n n, .nilIface] ∧ Hp w0 w ([(b, cel (i64sV (gatL kf us vs n)) 2)] :: F) := by
      rcases hW with ⟨_, b, h1, H⟩ | ⟨hno, _⟩
      · rw [hzl] at h1
        rw [hZ.vals] at H
        exact ⟨b, h1, Hp.cut (A := [[(b, cel (i64sV (gatL kf us vs n)) 2)]]) (B := x.seg :: [(bo, cel ((Zs).map Zn.p) 48)] :: Zs.map Zn.seg) H⟩
      · exfalso
        refine hno fun z hz => ?_
        obtain ⟨k, hk⟩ := List.mem_iff_getElem?.1 hz
        have hkl := getE_lt hk
        obtain ⟨z1, k1, _, k3⟩ := hZ.2 k (by omega)
        rw [hk] at k1; cases k1
        rw [k3]; exact hI k (by omega)
    obtain ⟨b, rfl, H⟩ := hW
    refine JL.go trivial (RX.extract rfl rfl) ?_
    refine JL.go trivial (RX.extract rfl rfl) ?_
    refine JL.go trivial (RX.assignv (v := Value.slice _ _ _) rfl) ?_
    refine JL.go trivial (RX.assign) ?_
    refine JL.nil ?_
    refine J.ret2 (v := Value.slice _ _ _) Tryz.func16 rfl rfl rfl ?_
    exact ⟨_, rfl, b, rfl, H⟩
set_option maxHeartbeats 1600000 in
theorem LinAt_b {w0 w : World} {L : List Seg} (H : Hp w0 w L) {i j : Nat} (hij : i + j ≤ 1000000) : Ret Tryz.prog 17 [.int .i64 ((i : Nat) : Int), .int .i64 ((j : Nat) : Int)] w fun v w' => v = .int .i64 ((i + j : Nat) : Int) ∧ Hp w0 w' L := by
  refine Calls.of_J (n := 8) Tryz.func17 rfl rfl rfl ?_
  refine J.seq ?_
  refine J.region ?_
  refine JL.go trivial (RX.assign) ?_
  refine JL.nil ?_
  refine J.seq ?_
  refine J.region ?_
  refine JL.go trivial (RX.movev (v := Value.int _ _) rfl) ?_
  refine JL.go trivial (RX.movev (v := Value.int _ _) rfl) ?_
  refine JL.go trivial (RX.add rfl rfl (wi (n := i + j) (by omega) (by omega))) ?_
  refine JL.go trivial (RX.assignv (v := Value.int _ _) rfl) ?_
  refine JL.nil ?_
  refine J.ret1 (v := Value.int _ _) Tryz.func17 rfl rfl ?_
  exact ⟨_, rfl, rfl, H⟩
set_option maxHeartbeats 1600000 in
theorem CycAt_b {w0 w : World} {L : List Seg} (H : Hp w0 w L) {i j n b : Nat} (hs : SlAt L (some ⟨b, 0, none⟩) [.int .i64 ((n : Nat) : Int)]) (hn : 0 < n) (hij : i + j ≤ 1000000) : Ret Tryz.prog 19 [.int .i64 ((i : Nat) : Int), .int .i64 ((j : Nat) : Int), .pointer (some ⟨b, 0, none⟩)] w fun v w' => v = .int .i64 (((i + j) % n : Nat) : Int) ∧ Hp w0 w' L := by
  refine Calls.of_J (n := 11) Tryz.func19 rfl rfl rfl ?_
  refine J.seq ?_
  refine J.region ?_
  refine JL.go trivial (RX.assign) ?_
  refine JL.nil ?_
  refine J.seq ?_
  refine J.region ?_
  refine JL.go trivial (RX.movev (v := Value.int _ _) rfl) ?_
  refine JL.go trivial (RX.movev (v := Value.int _ _) rfl) ?_
  refine JL.go trivial (RX.add rfl rfl (wi (n := i + j) (by omega) (by omega))) ?_
  refine JL.go trivial (RX.loadS H hs rfl (j := 0) rfl (v := .int .i64 ((n : Nat) : Int)) rfl one3) ?_
  refine JL.go trivial (RX.rem rfl rfl (by omega) rem_nat) ?_
  refine JL.go trivial (RX.assignv (v := Value.int _ _) rfl) ?_
  refine JL.nil ?_
  refine J.ret1 (v := Value.int _ _) Tryz.func19 rfl rfl ?_
  exact ⟨_, rfl, rfl, H⟩
set_option maxHeartbeats 1600000 in
theorem linear1_b {w0 w : World} {F : List Seg} {E : Nat → Value} {Q : Nat → Addr} (H : Hp w0 w F) (hE : Errs F E Q) {pa pb : Option Addr} {ca cb : Nat} (ha : SlAt F pa (i64sV [1, 2])) (hb : SlAt F pb (i64sV [3, 4, 5])) : Ret Tryz.prog 5 [.slice pa 2 ca, .slice pb 3 cb] w fun v w' => ∃ b, v = .tuple #[.slice (some ⟨b, 0, none⟩) 4 4, .nilIface] ∧ Hp w0 w' ([(b, cel (i64sV [3, 10, 13, 10]) 2)] :: F) := by
  refine Calls.of_J (n := 34) Tryz.func5 rfl rfl rfl ?_
  refine J.seq ?_
  have hB : ∀ i : Fin 2, ∀ j : Fin 4, ∀ k : Fin 4, (accI ((fun i j => i + j) i.val) (prodE [1, 2] [3, 4, 5] i.val) (accO (fun i j => i + j) (prodE [1, 2] [3, 4, 5]) 3 i.val) j.val k.val).natAbs < 1267650600228229401496703205376 := by decide
  have hI : ∀ k : Fin 4, i64in (accO (fun i j => i + j) (prodE [1, 2] [3, 4, 5]) 3 2 k.val) := by decide
  refine J.region ?_
  refine JL.go trivial (RX.assign) ?_
  refine JL.go trivial (RX.assign) ?_
  refine JL.nil ?_
  refine J.seq ?_
  refine J.seq ?_
  refine J.region ?_
  refine JL.go trivial (RX.movev (v := Value.slice _ _ _) rfl) ?_
  refine JL.go trivial (RX.len_slice rfl (by rw [sl22]; rfl) rfl) ?_
  refine JL.go trivial (RX.eq rfl rfl) ?_
  refine JL.go trivial (RX.movev (v := Value.bool _) rfl) ?_
  refine JL.go ⟨_, rfl, rfl⟩ (RX.movev (v := Value.slice _ _ _) rfl) ?_
  refine JL.go ⟨_, rfl, rfl⟩ (RX.len_slice rfl (by rw [sl22]; rfl) rfl) ?_
  refine JL.go ⟨_, rfl, rfl⟩ (RX.eq rfl rfl) ?_
  refine JL.go trivial (RX.pick_f rfl rfl) ?_
  refine JL.go trivial (RX.movev (v := Value.bool _) rfl) ?_
  refine JL.go ⟨_, rfl, rfl⟩ (RX.movev (v := Value.slice _ _ _) rfl) ?_
  refine JL.go ⟨_, rfl, rfl⟩ (RX.len_slice rfl (by rw [sl22]; rfl) rfl) ?_
  refine JL.go ⟨_, rfl, rfl⟩ (RX.movev (v := Value.slice _ _ _) rfl) ?_
  refine JL.go ⟨_, rfl, rfl⟩ (RX.len_slice rfl (by rw [sl22]; rfl) rfl) ?_
  refine JL.go ⟨_, rfl, rfl⟩ (RX.quo rfl rfl (by decide) (r := 349525) (by decide)) ?_
  refine JL.go ⟨_, rfl, rfl⟩ (RX.gt rfl rfl) ?_
  refine JL.go trivial (RX.pick_f rfl rfl) ?_
  refine JL.nil ?_
  refine J.cond_f rfl (decide_eq_false (by decide)) ?_
  refine J.skip ?_
  refine J.seq ?_
  refine J.region ?_
  refine JL.go trivial (RX.movev (v := Value.slice _ _ _) rfl) ?_
  refine JL.go trivial (RX.movev (v := Value.slice _ _ _) rfl) ?_
  refine JL.go trivial (RX.movev (v := Value.slice _ _ _) rfl) ?_
  refine JL.go trivial (RX.len_slice rfl (by rw [sl22]; rfl) rfl) ?_
  refine JL.go trivial (RX.movev (v := Value.slice _ _ _) rfl) ?_
  refine JL.go trivial (RX.len_slice rfl (by rw [sl22]; rfl) rfl) ?_
  refine JL.go trivial (RX.add rfl rfl (w_i64 (r := 5) (by decide) (by decide) (by decide))) ?_
  refine JL.go trivial (RX.sub rfl rfl (w_i64 (r := 4) (by decide) (by decide) (by decide))) ?_
  refine JL.does trivial (EX.call rfl cl16 rfl ((gather_b (us := [1, 2]) (vs := [3, 4, 5]) (n := 4) (kf := fun i j => i + j) H hE ha hb (by decide) (by decide) (by decide) (by decide) (by decide) cl17 (by intro i j hi hj; simp at hi hj ⊢; omega) (fun i j w L hi hj H _ => LinAt_b H (by simp at hi hj; omega)) (fun i j k hi hj hk => hB ⟨i, hi⟩ ⟨j, by simp at hj ⊢; omega⟩ ⟨k, hk⟩) (fun k hk => hI ⟨k, hk⟩)))) ?_
  rintro _ w ⟨b, rfl, H⟩
  replace H : Hp w0 w ([(b, cel (i64sV [3, 10, 13, 10]) 2)] :: F) := by rw [show ([3, 10, 13, 10] : List Int) = gatL (fun i j => i + j) [1, 2] [3, 4, 5] 4 by decide]; exact H
  refine JL.go trivial (RX.extract rfl rfl) ?_
  refine JL.go trivial (RX.extract rfl rfl) ?_
  refine JL.go trivial (RX.assignv (v := Value.slice _ _ _) rfl) ?_
  refine JL.go trivial (RX.assign) ?_
  refine JL.nil ?_
  refine J.ret2 (v := Value.slice _ _ _) Tryz.func5 rfl rfl rfl ?_
  exact ⟨_, rfl, b, rfl, H⟩
set_option maxHeartbeats 1600000 in
theorem cyclic1_b {w0 w : World} {F : List Seg} {E : Nat → Value} {Q : Nat → Addr} (H : Hp w0 w F) (hE : Errs F E Q) {pa pb : Option Addr} {ca cb : Nat} (ha : SlAt F pa (i64sV [1, 2, 3])) (hb : SlAt F pb (i64sV [4, 5, 6])) : Ret Tryz.prog 9 [.slice pa 3 ca, .slice pb 3 cb] w fun v w' => ∃ b, v = .tuple #[.slice (some ⟨b, 0, none⟩) 3 3, .nilIface] ∧ Hp w0 w' ([(b, cel (i64sV [31, 31, 28]) 2)] :: F) := by
  refine Calls.of_J (n := 29) Tryz.func9 rfl rfl rfl ?_
  refine J.seq ?_
  have hB : ∀ i : Fin 3, ∀ j : Fin 4, ∀ k : Fin 3, (accI ((fun i j => (i + j) % 3) i.val) (prodE [1, 2, 3] [4, 5, 6] i.val) (accO (fun i j => (i + j) % 3) (prodE [1, 2, 3] [4, 5, 6]) 3 i.val) j.val k.val).natAbs < 1267650600228229401496703205376 := by decide
  have hI : ∀ k : Fin 3, i64in (accO (fun i j => (i + j) % 3) (prodE [1, 2, 3] [4, 5, 6]) 3 3 k.val) := by decide
  refine J.region ?_
  refine JL.go trivial (RX.assign) ?_
  refine JL.go trivial (RX.assign) ?_
  refine JL.nil ?_
  refine J.seq ?_
  refine J.region ?_
  refine JL.go trivial (RX.movev (v := Value.slice _ _ _) rfl) ?_
  refine JL.go trivial (RX.len_slice rfl (by rw [sl22]; rfl) rfl) ?_
  refine JL.does trivial (EX.alloc H zr3 rfl) ?_
  rintro _ w ⟨b1, rfl, H⟩
  refine JL.does trivial (by first | exact EX.store (v := Value.int _ _) H rfl rfl (i := 0) rfl rfl (by simp) sz3 rfl rfl) ?_
  rintro _ w H
  refine JL.nil ?_
  refine J.seq ?_
  refine J.seq ?_
  refine J.region ?_
  refine JL.go trivial (by first | exact RX.load H rfl (i := 0) rfl rfl one3) ?_
  refine JL.go trivial (RX.eq rfl rfl) ?_
  refine JL.go trivial (RX.movev (v := Value.bool _) rfl) ?_
  refine JL.go ⟨_, rfl, rfl⟩ (by first | exact RX.load H rfl (i := 0) rfl rfl one3) ?_
  refine JL.go ⟨_, rfl, rfl⟩ (RX.gt rfl rfl) ?_
  refine JL.go trivial (RX.pick_f rfl rfl) ?_
  refine JL.go trivial (RX.movev (v := Value.bool _) rfl) ?_
  refine JL.go ⟨_, rfl, rfl⟩ (RX.movev (v := Value.slice _ _ _) rfl) ?_
  refine JL.go ⟨_, rfl, rfl⟩ (RX.len_slice rfl (by rw [sl22]; rfl) rfl) ?_
  refine JL.go ⟨_, rfl, rfl⟩ (by first | exact RX.load H rfl (i := 0) rfl rfl one3) ?_
  refine JL.go ⟨_, rfl, rfl⟩ (RX.ne rfl rfl) ?_
  refine JL.go trivial (RX.pick_f rfl rfl) ?_
  refine JL.nil ?_
  refine J.cond_f rfl (decide_eq_false (by decide)) ?_
  refine J.skip ?_
  refine J.seq ?_
  refine J.region ?_
  refine JL.go trivial (RX.movev (v := Value.slice _ _ _) rfl) ?_
  refine JL.go trivial (RX.movev (v := Value.slice _ _ _) rfl) ?_
  refine JL.go trivial (by first | exact RX.load H rfl (i := 0) rfl rfl one3) ?_
  refine JL.go trivial (RX.makeFunc rfl rfl) ?_
  refine JL.does trivial (EX.call rfl cl16 rfl ((gather_b (us := [1, 2, 3]) (vs := [4, 5, 6]) (n := 3) (kf := fun i j => (i + j) % 3) H hE.cons ha.cons hb.cons (by decide) (by decide) (by decide) (by decide) (by decide) cl19 (by intro i j hi hj; simp at hi hj ⊢; omega) (fun i j w L hi hj H hk => CycAt_b (n := 3) (b := b1) H (hk _ _ (SlAt.here rfl)) (by decide) (by simp at hi hj; omega)) (fun i j k hi hj hk => hB ⟨i, hi⟩ ⟨j, by simp at hj ⊢; omega⟩ ⟨k, hk⟩) (fun k hk => hI ⟨k, hk⟩)))) ?_
  rintro _ w ⟨b, rfl, H⟩
  replace H : Hp w0 w ([(b, cel (i64sV [31, 31, 28]) 2)] :: F) := by rw [show ([31, 31, 28] : List Int) = gatL (fun i j => (i + j) % 3) [1, 2, 3] [4, 5, 6] 3 by decide]; exact (H.pull 1 rfl).drop
  refine JL.go trivial (RX.extract rfl rfl) ?_
  refine JL.go trivial (RX.extract rfl rfl) ?_
  refine JL.go trivial (RX.assignv (v := Value.slice _ _ _) rfl) ?_
  refine JL.go trivial (RX.assign) ?_
  refine JL.nil ?_
  refine J.ret2 (v := Value.slice _ _ _) Tryz.func9 rfl rfl rfl ?_
  exact ⟨_, rfl, b, rfl, H⟩
end Go.Proofs.YtfpphoapknecfaaGreatDoorBesafter
