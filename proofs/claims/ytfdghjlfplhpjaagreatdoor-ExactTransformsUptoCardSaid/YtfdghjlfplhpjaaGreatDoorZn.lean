/- Numbers of math/big in lists. -/
import Derived.Test.YtfdghjlfplhpjaaGreatDoorLa
import Derived.Test.YtfdghjlfplhpjaaGreatDoorBj
namespace Go.Proofs.YtfdghjlfplhpjaaGreatDoor
open Go Go.Eng
set_option maxRecDepth 100000
set_option linter.unusedVariables false
set_option linter.unusedSimpArgs false
theorem cl47 : callable Tryz.prog 47 = true := by kernel_rfl
theorem cl48 : callable Tryz.prog 48 = true := by kernel_rfl
theorem one52 : oneOf Tryz.prog 52 = true := by kernel_rfl
theorem sl50 : sliceOf Tryz.prog 50 = some (52, 1) := by kernel_rfl
theorem sz2 : szOf Tryz.prog 2 = some 1 := by kernel_rfl
theorem sz52 : szOf Tryz.prog 52 = some 1 := by kernel_rfl
theorem zr57 : (Tryz.prog.info? 57).bind (·.zero) = some (.agg #[.bool false, .slice none 0 0]) := by kernel_rfl

/-- A big.Int in memory: its block, its value, its words. -/
structure Zn where
  b : Nat
  v : Int
  q : Option Addr
  c : Nat
  sl : Seg
def Zn.seg (z : Zn) : Seg := (z.b, cel (bigV z.v z.q z.c) 57) :: z.sl
def Zn.ok (z : Zn) : Prop := OwnW z.q (wd z.v.natAbs) z.c z.sl
def Zn.p (z : Zn) : Value := .pointer (some ⟨z.b, 0, none⟩)
def Zn.zero (b : Nat) : Zn := ⟨b, 0, none, 0, []⟩
section
variable {w0 w : World} {L : List Seg}
theorem Zn.open_ {z : Zn} (H : Hp w0 w (z.seg :: L)) : Hp w0 w ([(z.b, cel (bigV z.v z.q z.c) 57)] :: z.sl :: L) :=
  Hp.split (s := [(z.b, cel (bigV z.v z.q z.c) 57)]) (t := z.sl) H
theorem Zn.close {b : Nat} {v : Int} {q : Option Addr} {c : Nat} {sl : Seg} (H : Hp w0 w ([(b, cel (bigV v q c) 57)] :: sl :: L)) : Hp w0 w ((Zn.mk b v q c sl).seg :: L) := H.join
theorem Zn.zero_seg (b : Nat) : (Zn.zero b).seg = [(b, cel [.bool false, .slice none 0 0] 57)] := by simp [Zn.seg, Zn.zero, bigV, wd]
theorem Zn.zero_ok (b : Nat) : (Zn.zero b).ok := ownW_nil
theorem Zn.at_ {z : Zn} (h : z.seg ∈ L) (hz : z.ok) : SlAt L (some ⟨z.b, 0, none⟩) (bigV z.v z.q z.c) ∧ SlAt L z.q (u64sV (wd z.v.natAbs)) ∧ (z.b, Obj.cells (bigV z.v z.q z.c).toArray 57 (0, 0)) ∈ L.flatten := by
  have hm : (z.b, Obj.cells (bigV z.v z.q z.c).toArray 57 (0, 0)) ∈ L.flatten := List.mem_flatten.2 ⟨_, h, List.mem_cons_self⟩
  refine ⟨.inr ⟨z.b, 0, _, _, _, rfl, hm, fun j _ => by simp⟩, ?_, hm⟩
  exact SlAt.perm (L := [z.sl]) (OwnSl.slAt hz) fun e he => List.mem_flatten.2 ⟨_, h, List.mem_cons_of_mem _ (by simpa using he)⟩
theorem Zn.ne {z y : Zn} (H : Hp w0 w (z.seg :: L)) (h : y.seg ∈ L) : ¬ z.b = y.b := by
  intro e
  have hn := H.nd
  rw [List.flatten_cons, List.map_append] at hn
  exact (List.nodup_append.1 hn).2.2 z.b (by simp [Zn.seg]) y.b (List.mem_map.2 ⟨_, List.mem_flatten.2 ⟨_, h, List.mem_cons_self⟩, rfl⟩) e
theorem Hp.cut {A B C : List Seg} (H : Hp w0 w (A ++ (B ++ C))) : Hp w0 w (A ++ C) := by
  have : Hp w0 w (B.flatten :: (A ++ C)) := perm_of_flatten H (by
    simp only [List.flatten_append, List.flatten_cons]
    exact List.perm_append_comm_assoc _ _ _)
  exact this.drop
theorem Hp.swap {A B C F : List Seg} (H : Hp w0 w (A ++ (B ++ (C ++ F)))) : Hp w0 w (A ++ (C ++ (B ++ F))) :=
  perm_of_flatten H (by
    simp only [List.flatten_append]
    exact List.Perm.append_left _ (List.perm_append_comm_assoc _ _ _))
theorem Hp.zout {X F : List Seg} {Zs : List Zn} {k : Nat} {z : Zn} (H : Hp w0 w (X ++ (Zs.map Zn.seg ++ F))) (hk : Zs[k]? = some z) : Hp w0 w (z.seg :: (X ++ ((Zs.map Zn.seg).set k [] ++ F))) := by
  have hkl := getE_lt hk
  have h := H.out (i := X.length + k) (s := z.seg) (by rw [List.getElem?_append_right (by omega), Nat.add_sub_cancel_left, List.getElem?_append_left (by simpa using hkl), List.getElem?_map, hk]; rfl)
  rwa [List.set_append_right _ _ (by omega), Nat.add_sub_cancel_left, List.set_append_left _ _ (by simpa using hkl)] at h
theorem Hp.zback {X F : List Seg} {Zs : List Zn} {k : Nat} {z z' : Zn} (H : Hp w0 w (z'.seg :: (X ++ ((Zs.map Zn.seg).set k [] ++ F)))) (hk : Zs[k]? = some z) : Hp w0 w (X ++ ((Zs.set k z').map Zn.seg ++ F)) := by
  have hkl := getE_lt hk
  have h := Hp.back (L := X ++ (Zs.map Zn.seg ++ F)) (i := X.length + k) (s := z.seg) (s' := z'.seg) (by rwa [List.set_append_right _ _ (by omega), Nat.add_sub_cancel_left, List.set_append_left _ _ (by simpa using hkl)])
    (by rw [List.getElem?_append_right (by omega), Nat.add_sub_cancel_left, List.getElem?_append_left (by simpa using hkl), List.getElem?_map, hk]; rfl)
  rwa [List.set_append_right _ _ (by omega), Nat.add_sub_cancel_left, List.set_append_left _ _ (by simpa using hkl), ← List.map_set] at h
theorem mapP_set {Zs : List Zn} {k : Nat} {z z' : Zn} (hk : Zs[k]? = some z) (hb : z'.b = z.b) : (Zs.set k z').map Zn.p = Zs.map Zn.p := by
  rw [List.map_set, show z'.p = z.p by unfold Zn.p; rw [hb]]
  exact set_self (by rw [List.getElem?_map, hk]; rfl)
end
/-- Numbers by their places. -/
def RowZ (Zs : List Zn) (n : Nat) (f : Nat → Int) : Prop := Zs.length = n ∧ ∀ i, i < n → ∃ z, Zs[i]? = some z ∧ z.ok ∧ z.v = f i
theorem RowZ.ext {Zs : List Zn} {n : Nat} {f g : Nat → Int} (h : RowZ Zs n f) (he : ∀ j, j < n → f j = g j) : RowZ Zs n g :=
  ⟨h.1, fun i hi => by obtain ⟨z, h1, h2, h3⟩ := h.2 i hi; exact ⟨z, h1, h2, by rw [h3, he i hi]⟩⟩
theorem RowZ.set {Zs : List Zn} {n k : Nat} {f : Nat → Int} {z' : Zn} (h : RowZ Zs n f) (hz : z'.ok) : RowZ (Zs.set k z') n (fun j => if j = k then z'.v else f j) := by
  refine ⟨by rw [List.length_set, h.1], fun i hi => ?_⟩
  rw [List.getElem?_set]
  by_cases e : k = i
  · subst e; rw [if_pos rfl, if_pos (by rw [h.1]; exact hi)]; exact ⟨z', rfl, hz, by simp⟩
  · obtain ⟨z, h1, h2, h3⟩ := h.2 i hi
    rw [if_neg e]; exact ⟨z, h1, h2, by simp only; rw [if_neg (Ne.symm e)]; exact h3⟩
theorem RowZ.vals {Zs : List Zn} {n : Nat} {f : Nat → Int} (h : RowZ Zs n f) : Zs.map (·.v) = (List.range n).map f := by
  refine List.ext_getElem? fun j => ?_
  rw [List.getElem?_map, List.getElem?_map]
  by_cases hj : j < n
  · obtain ⟨z, h1, _, h3⟩ := h.2 j hj
    rw [h1, List.getElem?_range hj]; simp [h3]
  · rw [List.getElem?_eq_none (by rw [h.1]; omega), List.getElem?_eq_none (by simp; omega)]; rfl
theorem RowZ.oks {Zs : List Zn} {n : Nat} {f : Nat → Int} (h : RowZ Zs n f) : ∀ z ∈ Zs, z.ok := by
  intro z hz
  obtain ⟨i, hi⟩ := List.mem_iff_getElem?.1 hz
  obtain ⟨z', h1, h2, _⟩ := h.2 i (by have := getE_lt hi; rw [h.1] at this; exact this)
  rw [hi] at h1; cases h1; exact h2
theorem RowZ.p_at {Zs : List Zn} {i : Nat} {z : Zn} (h : Zs[i]? = some z) : (Zs.map Zn.p)[i]? = some z.p := by rw [List.getElem?_map, h]; rfl
theorem Errs.sub {F L : List Seg} {E : Nat → Value} {Q : Nat → Addr} (h : Errs F E Q) (hs : ∀ e, e ∈ F.flatten → e ∈ L.flatten) : Errs L E Q := by
  refine ⟨fun i h0 h1 => ?_, fun i h0 h1 => ?_, h.inj⟩
  · obtain ⟨⟨C, T, fz, hm, hc⟩, h2, h3⟩ := h.at_ i h0 h1
    exact ⟨⟨C, T, fz, hs _ hm, hc⟩, h2, h3⟩
  · obtain ⟨h2, C, T, hm⟩ := h.er i h0 h1
    exact ⟨h2, C, T, hs _ hm⟩
theorem mem_app {X F : List Seg} {e : Nat × Obj} (h : e ∈ F.flatten) : e ∈ (X ++ F).flatten := by
  rw [List.flatten_append]; exact List.mem_append_right _ h
theorem rep_snoc {l : List Value} {m n : Nat} {v x : Value} (h : l.length = m) (hn : m < n) : (l ++ List.replicate (n - m) x).set m v = (l ++ [v]) ++ List.replicate (n - (m + 1)) x := by
  subst h
  rw [List.set_append_right _ _ (Nat.le_refl _), Nat.sub_self, show n - l.length = (n - (l.length + 1)) + 1 by omega, List.replicate_succ, List.set_cons_zero, List.append_assoc]; rfl
theorem fnL_rep {α : Type} (x : α) (n : Nat) : fnL (fun _ => x) n = List.replicate n x := by
  induction n with
  | zero => rfl
  | succ n ih =>
    have e : fnL (fun _ => x) (n + 1) = fnL (fun _ => x) n ++ [x] := by simp [fnL, List.range_succ]
    rw [e, ih, List.replicate_succ']
theorem mkZ : Tryz.prog.underlying 50 = some (.slice 52) ∧ ∃ i, Tryz.prog.info? 52 = some i ∧ i.zero = some (.pointer none) ∧ i.size = 1 ∧ i.bytes = 8 := ⟨by kernel_rfl, info_one (by kernel_rfl) (by kernel_rfl)⟩
theorem mkI : Tryz.prog.underlying 35 = some (.slice 2) ∧ ∃ i, Tryz.prog.info? 2 = some i ∧ i.zero = some (.int .i64 0) ∧ i.size = 1 ∧ i.bytes = 8 := ⟨by kernel_rfl, info_one (by kernel_rfl) (by kernel_rfl)⟩
section
variable {w0 w : World} {L : List Seg}
theorem zAdd_b {z y : Zn} (H : Hp w0 w (z.seg :: L)) (hz : z.ok) (hy : y.seg ∈ L) (hyo : y.ok) (hb1 : z.v.natAbs < 1267650600228229401496703205376) (hb2 : y.v.natAbs < 18446744073709551616) : Ret Tryz.prog 28 [z.p, z.p, y.p] w fun u w' => ∃ z' : Zn, u = z.p ∧ z'.b = z.b ∧ z'.v = z.v + y.v ∧ z'.ok ∧ Hp w0 w' (z'.seg :: L) := by
  obtain ⟨h1, h2, _⟩ := Zn.at_ hy hyo
  refine Ret.mono (iAdd_b (Zn.open_ H) hz h1 h2 hyo.spot hyo.le hb1 hb2) ?_
  rintro u w' ⟨q, c, s1, rfl, ho, H⟩
  exact ⟨⟨z.b, z.v + y.v, q, c, s1⟩, rfl, rfl, rfl, ho, Zn.close H⟩
theorem zNeg_b {z y : Zn} (H : Hp w0 w (z.seg :: L)) (hz : z.ok) (hy : y.seg ∈ L) (hyo : y.ok) : Ret Tryz.prog 27 [z.p, y.p] w fun u w' => ∃ z' : Zn, u = z.p ∧ z'.b = z.b ∧ z'.v = -y.v ∧ z'.ok ∧ Hp w0 w' (z'.seg :: L) := by
  obtain ⟨h1, h2, h3⟩ := Zn.at_ hy hyo
  refine Ret.mono (iNeg_b (Zn.open_ H) hz h1 h2 hyo.spot hyo.le h3 (Zn.ne H hy)) ?_
  rintro u w' ⟨q, c, s1, rfl, ho, H⟩
  exact ⟨⟨z.b, -y.v, q, c, s1⟩, rfl, rfl, rfl, ho, Zn.close H⟩
theorem zMul_b {z x y : Zn} (H : Hp w0 w (z.seg :: L)) (hz : z.ok) (hx : x.seg ∈ L) (hxo : x.ok) (hy : y.seg ∈ L) (hyo : y.ok) (hne : ¬ x.b = y.b) (hx1 : 0 < x.v) (hx2 : x.v < 4294967296) (hy1 : 0 < y.v) (hy2 : y.v < 4294967296) :
    Ret Tryz.prog 36 [z.p, x.p, y.p] w fun u w' => ∃ z' : Zn, u = z.p ∧ z'.b = z.b ∧ z'.v = x.v * y.v ∧ z'.ok ∧ Hp w0 w' (z'.seg :: L) := by
  obtain ⟨h1, h2, h3⟩ := Zn.at_ hx hxo
  obtain ⟨k1, k2, k3⟩ := Zn.at_ hy hyo
  obtain ⟨a, ha⟩ : ∃ a : Nat, x.v = (a : Int) := ⟨x.v.toNat, by omega⟩
  obtain ⟨b, hb⟩ : ∃ b : Nat, y.v = (b : Int) := ⟨y.v.toNat, by omega⟩
  rw [ha] at h1 h2 h3 hx1 hx2
  rw [hb] at k1 k2 k3 hy1 hy2
  refine Ret.mono (iMul_b (Zn.open_ H) hz h1 k1 h2 k2 h3 k3 hne (by omega) (by omega) (by omega) (by omega)) ?_
  rintro u w' ⟨q, c, s1, rfl, ho, H⟩
  exact ⟨⟨z.b, ((a * b : Nat) : Int), q, c, s1⟩, rfl, rfl, by rw [ha, hb]; simp, ho, Zn.close H⟩
theorem zNew_b {v : Int} (H : Hp w0 w L) (hv : v.natAbs ≤ 9223372036854775808) : Ret Tryz.prog 26 [.int .i64 v] w fun u w' => ∃ z : Zn, u = z.p ∧ z.v = v ∧ z.ok ∧ Hp w0 w' (z.seg :: L) := by
  refine Ret.mono (NewInt_b H hv) ?_
  rintro u w' ⟨b, q, c, sl, rfl, ho, H⟩
  exact ⟨⟨b, v, q, c, sl⟩, rfl, rfl, ho, Zn.close H⟩
theorem zAddAt_b {X F : List Seg} {Zs : List Zn} {k : Nat} {z y : Zn} (H : Hp w0 w (X ++ (Zs.map Zn.seg ++ F))) (hk : Zs[k]? = some z) (hz : z.ok) (hy : y.seg ∈ X) (hyo : y.ok) (hb1 : z.v.natAbs < 1267650600228229401496703205376) (hb2 : y.v.natAbs < 18446744073709551616) :
    Ret Tryz.prog 28 [z.p, z.p, y.p] w fun u w' => ∃ z' : Zn, u = z.p ∧ z'.b = z.b ∧ z'.v = z.v + y.v ∧ z'.ok ∧ Hp w0 w' (X ++ ((Zs.set k z').map Zn.seg ++ F)) := by
  refine Ret.mono (zAdd_b (Hp.zout H hk) hz (List.mem_append_left _ hy) hyo hb1 hb2) ?_
  rintro u w' ⟨z', rfl, h1, h2, h3, H⟩
  exact ⟨z', rfl, h1, h2, h3, Hp.zback H hk⟩
theorem hp_snoc {row : Seg} {z : Zn} {Zs : List Zn} {F : List Seg} (H : Hp w0 w (row :: z.seg :: (Zs.map Zn.seg ++ F))) : Hp w0 w (row :: ((Zs ++ [z]).map Zn.seg ++ F)) :=
  perm_of_flatten H (by
    simp only [List.flatten_cons, List.flatten_append, List.map_append, List.map_cons, List.map_nil, List.flatten_nil, List.append_nil, List.append_assoc]
    exact List.Perm.append_left _ (List.perm_append_comm_assoc _ _ _))
end

theorem none_b {w0 w : World} {F : List Seg} (H : Hp w0 w F) {n : Nat} (hn : n ≤ 1048576) : Ret Tryz.prog 25 [.int .i64 ((n : Nat) : Int)] w fun v w' => ∃ bo Zs, v = .slice (some ⟨bo, 0, none⟩) n n ∧ RowZ Zs n (fun _ => 0) ∧ Hp w0 w' ([(bo, cel ((Zs).map Zn.p) 52)] :: (Zs.map Zn.seg ++ F)) := by
  refine Calls.of_J (n := 18) Tryz.func25 rfl rfl rfl ?_
  refine J.seq ?_
  refine J.region ?_
  refine JL.go trivial (RX.assign) ?_
  refine JL.nil ?_
  refine J.seq ?_
  refine J.region ?_
  refine JL.go trivial (RX.movev (v := Value.int _ _) rfl) ?_
  refine JL.does trivial (EX.makeS (e := 52) (m := n) H mkZ.1 mkZ.2 rfl rfl rfl (by omega) (by omega) (by omega)) ?_
  rintro _ w ⟨bo, rfl, H⟩
  rw [fnL_rep] at H
  refine JL.go trivial (RX.assignv (v := Value.slice _ _ _) rfl) ?_
  refine JL.nil ?_
  refine J.seq ?_
  refine J.seq ?_
  refine J.region ?_
  refine JL.go trivial (RX.movev (v := Value.slice _ _ _) rfl) ?_
  refine JL.go trivial (RX.len_slice rfl (by rw [sl50]; rfl) rfl) ?_
  refine JL.go trivial (RX.move) ?_
  refine JL.nil ?_
  refine J.block ?_
  refine J.loop (ι := Nat × List Zn) (S := fun z => [(9, .int .i64 ((z.1 : Nat) : Int))]) (Φ := fun z w => z.1 ≤ n ∧ RowZ z.2 z.1 (fun _ => 0) ∧ Hp w0 w ([(bo, cel (z.2.map Zn.p ++ List.replicate (n - z.1) (.pointer none)) 52)] :: (z.2.map Zn.seg ++ F))) (μ := fun z => n - z.1) (C := [(3, _), (8, _)]) (0, []) ⟨rfl, rfl, trivial⟩ ⟨rfl, trivial⟩ ?_ ?_
  · exact ⟨by simp, ⟨rfl, fun i hi => by simp at hi⟩, H⟩
  clear H
  rintro ⟨i, Zs⟩ ρ w ⟨hi, hz, H⟩ IH
  simp only at hi hz H
  dsimp only
  refine J.seq ?_
  refine J.region ?_
  refine JL.go trivial (RX.lt rfl rfl) ?_
  refine JL.nil ?_
  refine J.seq ?_
  refine J.cond_d rfl (fun hlt => ?_) (fun hlt => ?_)
  · skip
    refine J.skip ?_
    refine J.seq ?_
    refine J.block ?_
    refine J.seq ?_
    refine J.region ?_
    refine JL.go trivial (RX.movev (v := Value.int _ _) rfl) ?_
    refine JL.go trivial (RX.assignv (v := Value.int _ _) rfl) ?_
    refine JL.nil ?_
    refine J.region ?_
    refine JL.go trivial (RX.movev (v := Value.slice _ _ _) rfl) ?_
    refine JL.go trivial (RX.movev (v := Value.int _ _) rfl) ?_
    refine JL.does trivial (EX.alloc H zr57 rfl) ?_
    rintro _ w ⟨bz, rfl, H⟩
    refine JL.go trivial (RX.indexAddr rfl rfl sl50 (by omega) (by omega) (o' := i) (by omega)) ?_
    refine JL.does trivial (EX.store (v := Value.pointer _) H rfl rfl (i := 1) rfl rfl (by simp; have := hz.1; omega) sz52 rfl rfl) ?_
    rintro _ w H
    refine JL.nil ?_
    refine J.inBlock ?_
    refine J.region ?_
    refine JL.go trivial (RX.add rfl rfl (wi (n := i + 1) (by omega) (by omega))) ?_
    refine JL.go trivial (RX.movev (v := Value.int _ _) rfl) ?_
    refine JL.nil ?_
    have hr := rep_snoc (l := Zs.map Zn.p) (m := i) (n := n) (v := .pointer (some ⟨bz, 0, none⟩)) (x := .pointer none) (by simp [hz.1]) (by omega)
    simp only [List.set_cons_succ, List.set_cons_zero] at H
    rw [hr, ← Zn.zero_seg] at H
    have H2 := hp_snoc (H.pull 1 rfl)
    refine IH (i + 1, Zs ++ [Zn.zero bz]) _ _ (by simp only; omega) ⟨rfl, rfl, trivial⟩ ⟨rfl, trivial⟩ ⟨by simp only; omega, ⟨by simp [hz.1], fun j hj => ?_⟩, by simp only; rw [show (Zs ++ [Zn.zero bz]).map Zn.p = Zs.map Zn.p ++ [Value.pointer (some ⟨bz, 0, none⟩)] by rw [List.map_append]; rfl]; exact H2⟩
    by_cases e : j < i
    · obtain ⟨z, h1, h2, h3⟩ := hz.2 j e
      exact ⟨z, by rw [List.getElem?_append_left (getE_lt h1)]; exact h1, h2, h3⟩
    · obtain rfl : j = i := by simp only at hj; omega
      exact ⟨Zn.zero bz, by rw [List.getElem?_append_right (by rw [hz.1]; exact Nat.le_refl _), hz.1]; simp, Zn.zero_ok _, rfl⟩
  · skip
    refine J.exit rfl ?_
    refine J.seq ?_
    refine J.region ?_
    refine JL.go trivial (RX.movev (v := Value.slice _ _ _) rfl) ?_
    refine JL.go trivial (RX.assignv (v := Value.slice _ _ _) rfl) ?_
    refine JL.nil ?_
    refine J.ret1 (v := Value.slice _ _ _) Tryz.func25 rfl rfl ?_
    obtain rfl : i = n := by omega
    rw [Nat.sub_self, List.replicate_zero, List.append_nil] at H
    exact ⟨_, rfl, bo, Zs, rfl, hz, H⟩
theorem whole_b {w0 w : World} {L : List Seg} {E : Nat → Value} {Q : Nat → Addr} (H : Hp w0 w L) (hE : Errs L E Q) {Zs : List Zn} {p : Option Addr} {c : Nat} (hs : SlAt L p (Zs.map Zn.p)) (hm : ∀ z ∈ Zs, z.seg ∈ L) (ho : ∀ z ∈ Zs, z.ok) (hn : Zs.length ≤ 1048576) : Ret Tryz.prog 29 [.slice p Zs.length c] w fun v w' => ((∀ z ∈ Zs, i64in z.v) ∧ ∃ b, v = .tuple #[.slice (some ⟨b, 0, none⟩) Zs.length Zs.length, .nilIface] ∧ Hp w0 w' ([(b, cel (i64sV (Zs.map (·.v))) 2)] :: L)) ∨ ((¬ ∀ z ∈ Zs, i64in z.v) ∧ v = .tuple #[.slice none 0 0, E 19] ∧ Hp w0 w' L) := by
  refine Calls.of_J (n := 28) Tryz.func29 rfl rfl rfl ?_
  refine J.seq ?_
  refine J.region ?_
  refine JL.go trivial (RX.assign) ?_
  refine JL.go trivial (RX.assign) ?_
  refine JL.nil ?_
  refine J.seq ?_
  refine J.region ?_
  refine JL.go trivial (RX.movev (v := Value.slice _ _ _) rfl) ?_
  refine JL.go trivial (RX.len_slice rfl (by rw [sl50]; rfl) rfl) ?_
  refine JL.does trivial (EX.makeS (e := 2) (m := Zs.length) H mkI.1 mkI.2 rfl rfl rfl (by omega) (by omega) (by omega)) ?_
  rintro _ w ⟨bo, rfl, H⟩
  rw [fnL_rep] at H
  refine JL.go trivial (RX.assignv (v := Value.slice _ _ _) rfl) ?_
  refine JL.nil ?_
  refine J.seq ?_
  refine J.seq ?_
  refine J.region ?_
  refine JL.go trivial (RX.movev (v := Value.slice _ _ _) rfl) ?_
  refine JL.go trivial (RX.len_slice rfl (by rw [sl50]; rfl) rfl) ?_
  refine JL.go trivial (RX.move) ?_
  refine JL.nil ?_
  refine J.block ?_
  refine J.loop (ι := Nat) (S := fun i => [(12, .int .i64 ((i : Nat) : Int))]) (Φ := fun i w => i ≤ Zs.length ∧ (∀ j z, j < i → Zs[j]? = some z → i64in z.v) ∧ Hp w0 w ([(bo, cel (i64sV ((Zs.map (·.v)).take i) ++ List.replicate (Zs.length - i) (.int .i64 0)) 2)] :: L)) (μ := fun i => Zs.length - i) (C := [(4, _), (10, _), (11, _)]) 0 ⟨rfl, rfl, rfl, trivial⟩ ⟨rfl, trivial⟩ ?_ ?_
  · exact ⟨by omega, fun j z h => by omega, H⟩
  clear H
  rintro i ρ w ⟨hi, hin, H⟩ IH
  refine J.seq ?_
  refine J.region ?_
  refine JL.go trivial (RX.lt rfl rfl) ?_
  refine JL.nil ?_
  refine J.seq ?_
  refine J.cond_d rfl (fun hlt => ?_) (fun hlt => ?_)
  · skip
    obtain ⟨z, hz⟩ : ∃ z, Zs[i]? = some z := ⟨_, List.getElem?_eq_getElem (by omega)⟩
    have hzm := List.mem_of_getElem? hz
    obtain ⟨h1, h2, _⟩ := Zn.at_ (hm z hzm) (ho z hzm)
    obtain ⟨pb, po, rfl, hpp⟩ := hs.some (by simp; omega)
    refine J.skip ?_
    refine J.seq ?_
    refine J.block ?_
    refine J.seq ?_
    refine J.region ?_
    refine JL.go trivial (RX.movev (v := Value.int _ _) rfl) ?_
    refine JL.go trivial (RX.indexAddr rfl rfl sl50 (by omega) (by omega) (o' := po + i) (by omega)) ?_
    refine JL.go trivial (RX.loadS H hs.cons rfl (j := i) rfl (v := z.p) (RowZ.p_at hz) one52) ?_
    refine JL.go trivial (RX.assignv (v := Value.int _ _) rfl) ?_
    refine JL.go trivial (RX.assignv (v := z.p) rfl) ?_
    refine JL.nil ?_
    refine J.seq ?_
    refine J.seq ?_
    refine J.region ?_
    refine JL.go trivial (RX.movev (v := z.p) rfl) ?_
    refine JL.does trivial (EX.call rfl cl47 rfl ((isInt64_b H h1.cons h2.cons))) ?_
    rintro _ w ⟨rfl, H⟩
    refine JL.go trivial (RX.not rfl) ?_
    refine JL.nil ?_
    refine J.cond rfl (fun hni => ?_) (fun hni => ?_)
    · skip
      have hno : ¬ i64in z.v := by simpa using hni
      refine J.seq ?_
      refine J.quietH H hmix (by kernel_rfl) ?_
      refine JQ.go trivial (fun w H => RX.loadG H rfl (hE.cons.at_ 19 (by decide) (by decide)).at_ one26) ?_
      refine JQ.go trivial (fun w H => RX.assign) ?_
      refine JQ.go trivial (fun w H => RX.assignv (v := E 19) rfl) ?_
      refine JQ.nil fun w H => ?_
      refine J.ret2 (v := Value.slice _ _ _) Tryz.func29 rfl rfl rfl ?_
      exact ⟨_, rfl, .inr ⟨fun h => hno (h z hzm), rfl, H.drop⟩⟩
    · skip
      have hyes : i64in z.v := by simpa using hni
      refine J.skip ?_
      refine J.region ?_
      refine JL.go trivial (RX.movev (v := Value.slice _ _ _) rfl) ?_
      refine JL.go trivial (RX.movev (v := Value.int _ _) rfl) ?_
      refine JL.go trivial (RX.movev (v := z.p) rfl) ?_
      refine JL.does trivial (EX.call rfl cl48 rfl ((int64_b H h1.cons h2.cons hyes))) ?_
      rintro _ w ⟨rfl, H⟩
      refine JL.go trivial (RX.indexAddr rfl rfl sl35 (by omega) (by omega) (o' := i) (by omega)) ?_
      refine JL.does trivial (EX.store (v := Value.int _ _) H rfl rfl (i := 0) rfl rfl (by simp [i64sV]; omega) sz2 rfl rfl) ?_
      rintro _ w H
      refine JL.nil ?_
      refine J.inBlock ?_
      refine J.region ?_
      refine JL.go trivial (RX.add rfl rfl (wi (n := i + 1) (by omega) (by omega))) ?_
      refine JL.go trivial (RX.movev (v := Value.int _ _) rfl) ?_
      refine JL.nil ?_
      have hzv : (Zs.map (·.v))[i]? = some z.v := by rw [List.getElem?_map, hz]; rfl
      have hr := rep_snoc (l := i64sV ((Zs.map (·.v)).take i)) (m := i) (n := Zs.length) (v := .int .i64 z.v) (x := .int .i64 0) (by simp [i64sV]; omega) (by omega)
      simp only [List.set_cons_zero] at H
      rw [hr, show i64sV ((Zs.map (·.v)).take i) ++ [.int .i64 z.v] = i64sV ((Zs.map (·.v)).take (i + 1)) by rw [take_succ_get hzv]; simp [i64sV]] at H
      refine IH (i + 1) _ _ (by omega) ⟨rfl, rfl, rfl, trivial⟩ ⟨rfl, trivial⟩ ⟨by omega, fun j y hj hy => ?_, H⟩
      by_cases e : j = i
      · subst e; rw [hz] at hy; cases hy; exact hyes
      · exact hin j y (by omega) hy
  · skip
    refine J.exit rfl ?_
    refine J.seq ?_
    refine J.region ?_
    refine JL.go trivial (RX.movev (v := Value.slice _ _ _) rfl) ?_
    refine JL.go trivial (RX.assignv (v := Value.slice _ _ _) rfl) ?_
    refine JL.go trivial (RX.assign) ?_
    refine JL.nil ?_
    refine J.ret2 (v := Value.slice _ _ _) Tryz.func29 rfl rfl rfl ?_
    obtain rfl : i = Zs.length := by omega
    rw [Nat.sub_self, List.replicate_zero, List.append_nil, List.take_of_length_le (by simp)] at H
    refine ⟨_, rfl, .inl ⟨fun z hz => ?_, bo, rfl, H⟩⟩
    obtain ⟨j, hj⟩ := List.mem_iff_getElem?.1 hz
    exact hin j z (getE_lt hj) hj
end Go.Proofs.YtfdghjlfplhpjaaGreatDoor
