/- Part 15 of the proof that WholeSmall holds: what the functions on its way do, step by step. -/
import Derived.Test.YtfaokllgaambjaaGreatDoorZ1
import Derived.Test.YtfaokllgaambjaaGreatDoorZ2
import Derived.Test.YtfaokllgaambjaaGreatDoorZ3
import Derived.Test.YtfaokllgaambjaaGreatDoorZ4
import Derived.Test.YtfaokllgaambjaaGreatDoorZ5
import Derived.Test.YtfaokllgaambjaaGreatDoorZ12
import Derived.Shelf.Strconv.Itoa0
import Derived.Shelf.Strconv.Itoa1
import Derived.Shelf.LaysM
import Derived.Shelf.Strconv.Itoa2
import Derived.Test.YtfaokllgaambjaaGreatDoorProg
import Derived.Lib.ItoaMem
import Derived.Lib.ItoaLen
set_option linter.unusedVariables false
set_option linter.unusedSimpArgs false
namespace Go.Proofs
open Go.Shelf
def Tryz.lays283_ren : Go.Shelf.Ren := ⟨fun | 283 => 170 | n => n, fun | 3 => 3 | 9 => 9 | 4 => 4 | n => n, fun | n => n⟩
theorem Tryz.lays283 : Go.Proofs.Lays.n283 Tryz.prog Tryz.lays283_ren := {
  mixed := by kernel_rfl
  f283 := Tryz.func170.trans (congrArg some (by kernel_rfl))
  t3 := Tryz.underlying3
  a3 := Tryz.isAgg3
  z3 := Tryz.sizeOf3
  v3 := Tryz.zeroValue3
  t4 := Tryz.underlying4
  a4 := Tryz.isAgg4
  z4 := Tryz.sizeOf4
  v4 := Tryz.zeroValue4
  t9 := Tryz.underlying9
  a9 := Tryz.isAgg9
  z9 := Tryz.sizeOf9
  v9 := Tryz.zeroValue9 }
open Go.Lib in
theorem Tryz.internal_strconv_small (i : Nat) (h : i < 100) (w : World) :
    Calls Tryz.prog 170 #[.int .i64 i] w fun e w' => e = .returned (.string ⟨(Lib.decDigits i).toArray⟩) ∧ w' = w := Any.internal_strconv_small Tryz.lays283 i h w
def Tryz.laysM284_ren : Go.Shelf.Ren := ⟨fun | 284 => 171 | 129 => 184 | 317 => 183 | 318 => 185 | n => n, fun | 53 => 86 | 3 => 3 | 212 => 246 | 0 => 0 | 4 => 4 | 46 => 89 | 5 => 5 | 9 => 9 | n => n, fun | 17 => 13 | n => n⟩
theorem Tryz.laysM284 : Go.Proofs.LaysM.n284 Tryz.prog Tryz.laysM284_ren := {
  mixed := by kernel_rfl
  f129 := Tryz.func184.trans (congrArg some (by kernel_rfl))
  f284 := Tryz.func171.trans (congrArg some (by kernel_rfl))
  f317 := Tryz.func183.trans (congrArg some (by kernel_rfl))
  f318 := Tryz.func185.trans (congrArg some (by kernel_rfl))
  t0 := Tryz.underlying0
  a0 := Tryz.isAgg0
  z0 := Tryz.sizeOf0
  v0 := Tryz.zeroValue0
  t3 := Tryz.underlying3
  a3 := Tryz.isAgg3
  z3 := Tryz.sizeOf3
  v3 := Tryz.zeroValue3
  t4 := Tryz.underlying4
  a4 := Tryz.isAgg4
  z4 := Tryz.sizeOf4
  v4 := Tryz.zeroValue4
  t5 := Tryz.underlying5
  a5 := Tryz.isAgg5
  z5 := Tryz.sizeOf5
  v5 := Tryz.zeroValue5
  t9 := Tryz.underlying9
  a9 := Tryz.isAgg9
  z9 := Tryz.sizeOf9
  v9 := Tryz.zeroValue9
  t46 := Tryz.underlying89
  a46 := Tryz.isAgg89
  z46 := Tryz.sizeOf89
  v46 := Tryz.zeroValue89
  t53 := Tryz.underlying86
  a53 := Tryz.isAgg86
  z53 := Tryz.sizeOf86
  v53 := Tryz.zeroValue86
  t212 := Tryz.underlying246
  a212 := Tryz.isAgg246
  z212 := Tryz.sizeOf246
  v212 := Tryz.zeroValue246
  g17 := by kernel_rfl
  i0 := by kernel_rfl
  i3 := by kernel_rfl
  i4 := by kernel_rfl
  i5 := by kernel_rfl
  i9 := by kernel_rfl
  i46 := by kernel_rfl
  i53 := by kernel_rfl
  i212 := by kernel_rfl
  m17 := by kernel_rfl }
open Go.Lib in
theorem Tryz.internal_strconv_numDigits (u : Nat) (h1 : 1 ≤ u) (h2 : u < 18446744073709551616) (w : World) (htab : Lib.TabIs Tryz.prog w "internal/strconv.uint64pow10" .u64 Lib.pow10Tab) :
    Calls Tryz.prog 171 #[.int .u64 u] w fun e w' => e = .returned (.int .i64 (Lib.nDigits u)) ∧ w' = w := Any.internal_strconv_numDigits Tryz.laysM284 u h1 h2 w htab
def Tryz.lays285_ren : Go.Shelf.Ren := ⟨fun | 285 => 172 | n => n, fun | 37 => 88 | 53 => 86 | 3 => 3 | 4 => 4 | 51 => 163 | 9 => 9 | 5 => 5 | 0 => 0 | n => n, fun | n => n⟩
theorem Tryz.lays285 : Go.Proofs.Lays.n285 Tryz.prog Tryz.lays285_ren := {
  mixed := by kernel_rfl
  f285 := Tryz.func172.trans (congrArg some (by kernel_rfl))
  t0 := Tryz.underlying0
  a0 := Tryz.isAgg0
  z0 := Tryz.sizeOf0
  v0 := Tryz.zeroValue0
  t3 := Tryz.underlying3
  a3 := Tryz.isAgg3
  z3 := Tryz.sizeOf3
  v3 := Tryz.zeroValue3
  t4 := Tryz.underlying4
  a4 := Tryz.isAgg4
  z4 := Tryz.sizeOf4
  v4 := Tryz.zeroValue4
  t5 := Tryz.underlying5
  a5 := Tryz.isAgg5
  z5 := Tryz.sizeOf5
  v5 := Tryz.zeroValue5
  t9 := Tryz.underlying9
  a9 := Tryz.isAgg9
  z9 := Tryz.sizeOf9
  v9 := Tryz.zeroValue9
  t37 := Tryz.underlying88
  a37 := Tryz.isAgg88
  z37 := Tryz.sizeOf88
  v37 := Tryz.zeroValue88
  t51 := Tryz.underlying163
  a51 := Tryz.isAgg163
  z51 := Tryz.sizeOf163
  v51 := Tryz.zeroValue163
  t53 := Tryz.underlying86
  a53 := Tryz.isAgg86
  z53 := Tryz.sizeOf86
  v53 := Tryz.zeroValue86 }
open Go.RowKit Go.Sort Go.Lib in
theorem Tryz.internal_strconv_formatBase10 (blk off cap : Nat) (u : Nat) (d : Array UInt8) (w : World) (hH : Holds (fun (b : UInt8) => Value.int .u8 (b.toNat : Int)) w blk off d) (hu : u < 10 ^ d.size) (hu64 : u < 18446744073709551616) (hsz : d.size < 4611686018427387904) :
    Calls Tryz.prog 172 #[.slice (some ⟨blk, off, none⟩) d.size cap, .int .u64 u] w fun e w' =>
      e = .returned (.tuple #[]) ∧ ∃ (n v' : Nat) (dk : Array UInt8), w' = (putRow (fun (b : UInt8) => Value.int .u8 (b.toNat : Int)) w blk off dk).drewN n ∧ FmtInv d.size u 0 v' dk := Any.internal_strconv_formatBase10 Tryz.lays285 blk off cap u d w hH hu hu64 hsz
end Go.Proofs
namespace Go.Proofs.YtfaokllgaambjaaGreatDoor
open Go Go.Eng
set_option maxRecDepth 100000
set_option maxHeartbeats 1600000
theorem ar225 : arrayOf Tryz.prog 225 = some (24, 5, 1) := by kernel_rfl
theorem cl113 : callable Tryz.prog 113 = true := by kernel_rfl
theorem cl137 : callable Tryz.prog 137 = true := by kernel_rfl
theorem cl170 : callable Tryz.prog 170 = true := by kernel_rfl
theorem cl171 : callable Tryz.prog 171 = true := by kernel_rfl
theorem cl172 : callable Tryz.prog 172 = true := by kernel_rfl
theorem ud88 : Tryz.prog.underlying 88 = some (.slice 5) := by kernel_rfl
namespace Oo
section
open Go.Sort
theorem elB : Elem Tryz.prog 88 5 1 1 := Elem.of (by kernel_rfl)
def GTab (F : List Seg) : Prop := ∃ T fz, (13, Obj.cells (Lib.pow10Tab.map fun z => Value.int .u64 z).toArray T fz) ∈ F.flatten
theorem GTab.cons {F : List Seg} {s : Seg} (h : GTab F) : GTab (s :: F) := by
 obtain ⟨T, fz, h⟩ := h
 exact ⟨T, fz, by simp only [List.flatten_cons, List.mem_append]; exact .inr h⟩
theorem GTab.is {w0 w : World} {F : List Seg} (H : Hp w0 w F) (h : GTab F) : Lib.TabIs Tryz.prog w "internal/strconv.uint64pow10" .u64 Lib.pow10Tab := by
 obtain ⟨T, fz, h⟩ := h
 have hb := H.mem _ h
 have hg : Program.globalNamed Tryz.prog "internal/strconv.uint64pow10" = some 13 := by kernel_rfl
 unfold Lib.TabIs World.var?
 rw [hg]
 simp only at hb
 simp [hb]
theorem hp_drew {w0 w : World} {L : List Seg} (H : Hp w0 w L) (n : Nat) : Hp w0 (w.drewN n) L := H.same ⟨rfl, rfl, rfl, rfl⟩
theorem small_b {w0 w : World} {L : List Seg} (H : Hp w0 w L) {u : Nat} (h : u < 100) : Ret Tryz.prog 170 [.int .i64 (u : Nat)] w fun v w' => v = .string ⟨(Lib.decDigits u).toArray⟩ ∧ Hp w0 w' L :=
  (Tryz.internal_strconv_small u h w).mono fun e w' h => by
    obtain ⟨rfl, rfl⟩ := h
    exact ⟨_, rfl, rfl, H⟩
theorem numDigits_b {w0 w : World} {L : List Seg} (H : Hp w0 w L) (ht : GTab L) {u : Nat} (h1 : 1 ≤ u) (h2 : u < 18446744073709551616) : Ret Tryz.prog 171 [.int .u64 (u : Nat)] w fun v w' => v = .int .i64 (Lib.nDigits u : Nat) ∧ Hp w0 w' L :=
  (Tryz.internal_strconv_numDigits u h1 h2 w (ht.is H)).mono fun e w' h => by
    obtain ⟨rfl, rfl⟩ := h
    exact ⟨_, rfl, rfl, H⟩
def bL (l : List UInt8) : List Value := l.map fun b => .int .u8 b.toNat
theorem bL_len (l : List UInt8) : (bL l).length = l.length := by simp [bL]
theorem bL_bytes (l : List UInt8) : byteCells ⟨l.toArray⟩ = bL l := by simp [byteCells, bL]
theorem bL_cell (l : List UInt8) : ∀ v ∈ bL l, isCell v = true := by
 intro v hv
 obtain ⟨b, _, rfl⟩ := List.mem_map.1 hv
 rfl
theorem src_str {w : World} (l : List UInt8) : Src Tryz.prog 1 9 (.string ⟨l.toArray⟩) l.length (bL l) w := by
 have h := Src.ofString (P := Tryz.prog) w (show Program.underlying Tryz.prog 9 = some .string by kernel_rfl) ⟨l.toArray⟩
 rw [bL_bytes] at h
 simpa [ByteArray.size] using h
def bz (n : Nat) : List Value := List.replicate n (.int .u8 0)
theorem putCells_bytes (d : Array UInt8) (l : List Value) (h : d.size ≤ l.length) : putCells (fun b : UInt8 => Value.int .u8 (b.toNat : Int)) 0 d l.toArray = (bL d.toList ++ l.drop d.size).toArray := by
 apply Array.ext_getElem?
 intro k
 simp only [putCells, Array.getElem?_mapIdx, List.getElem?_toArray, List.getElem?_append, bL_len, List.getElem?_drop, Array.length_toList]
 by_cases hk : k < d.size
 · rw [if_pos hk, List.getElem?_eq_getElem (show k < l.length by omega)]
   simp [hk, bL]
 · rw [if_neg hk, show d.size + (k - d.size) = k by omega]
   cases hl : l[k]? with
   | none => rfl
   | some x => simp [hk]
theorem fmt_b {w0 w : World} {F : List Seg} {b T u : Nat} (H : Hp w0 w ([(b, cel (bz 24) T)] :: F)) (h1 : 1 ≤ u) (h2 : u < 18446744073709551616) (hn : Lib.nDigits u ≤ 24) (hp : u < 10 ^ Lib.nDigits u) :
 Ret Tryz.prog 172 [.slice (some ⟨b, 0, none⟩) (Lib.nDigits u) 24, .int .u64 (u : Nat)] w fun v w' => v = .tuple #[] ∧ ∃ r, Hp w0 w' ([(b, cel (bL (Lib.decDigits u) ++ r) T)] :: F) := by
 have hb := H.get1 (i := 0) rfl
 have hH : Holds (fun (b : UInt8) => Value.int .u8 (b.toNat : Int)) w b 0 (Array.replicate (Lib.nDigits u) (0 : UInt8)) := by
   intro j hj
   have hj' : j < Lib.nDigits u := by simpa using hj
   constructor
   · have : (bz 24)[0 + j]? = some (.int .u8 0) := by unfold bz; rw [List.getElem?_replicate, if_pos (by omega)]
     simp only [World.cell?, hb, cel]
     simp only [Option.isSome_none, Bool.false_eq_true, if_false, List.getElem?_toArray, this]
     rw [getElem!_pos _ j hj]
     simp
   · simp [World.frozen?, hb, cel]
 have hc := Tryz.internal_strconv_formatBase10 b 0 24 u (Array.replicate (Lib.nDigits u) (0 : UInt8)) w hH (by simpa using hp) h2 (by simp; omega)
 simp only [Array.size_replicate] at hc
 refine hc.mono fun e w' h => ?_
 obtain ⟨rfl, n, v', dk, rfl, hf⟩ := h
 refine ⟨_, rfl, rfl, (bz 24).drop dk.size, ?_⟩
 have hsz : dk.size = Lib.nDigits u := hf.size
 have hdk : dk.toList = Lib.decDigits u := by
   apply List.ext_getElem
   · rw [Array.length_toList, hsz, Lib.decDigits_length]
   · intro j h1 h2
     rw [Lib.row_is_numeral hf j h2, getElem!_pos dk j (by simpa using h1)]
     simp
 refine hp_drew ?_ n
 have hnd := H.nd
 simp only [List.flatten_cons, List.map_append, List.map_cons, List.map_nil, List.singleton_append, List.nodup_cons] at hnd
 refine ⟨H.os, H.tape, H.output, by rw [size_putRow]; exact H.size, by simpa using H.nd, ?_⟩
 intro e' he'
 simp only [List.flatten_cons, List.singleton_append, List.mem_cons] at he'
 have hh : ∀ k, (putRow (fun b : UInt8 => Value.int .u8 (b.toNat : Int)) w b 0 dk).heap[k]? = if b = k then (w.heap[k]?).map (onCells (putCells (fun b : UInt8 => Value.int .u8 (b.toNat : Int)) 0 dk)) else w.heap[k]? := by
   intro k
   simp only [putRow, mapBlock, Array.getElem?_modify]
 rw [hh]
 rcases he' with rfl | he'
 · simp only [if_true, hb, Option.map_some, onCells, cel, putCells_bytes dk (bz 24) (by simp [bz]; omega), hdk]
 · rw [if_neg]
   · exact H.mem e' (by simp only [List.flatten_cons, List.mem_append]; exact .inr he')
   · intro hg
     exact hnd.1 (List.mem_map.2 ⟨e', he', hg.symm⟩)
end
section
variable {P : Program} {w w0 : World} {L : List Seg} {ρ : Operand → Value} {d : Option Tmp} {x y : Operand} {ty : TypeId} {pos : String} {af : Array Edge} {g : Option (Nat × Bool)}
theorem RX.sliceArr {t e n b sz r : Nat} {k : IntKind} {h : Int} (hx : ρ x = .pointer (some ⟨b, 0, none⟩)) (hy : ρ y = .int k h) (ht : arrayOf P t = some (n, e, sz)) (h0 : 0 ≤ h) (h1 : h ≤ n) (hr : h.toNat = r) :
 Runs P ρ ⟨d, .slice t x none (some y) none, ty, pos, af, g⟩ w (.slice (some ⟨b, 0, none⟩) r n) := by
 subst hr
 obtain ⟨hu, i, hi, hs⟩ := arrayOf_run ht
 unfold Runs
 have hsz : (sizeOf e).run P w = .ok sz w := szOf_run (by unfold szOf; rw [hi]; simp [hs])
 simp [execOp, hx, hy, Instr.sliceAt, run_underlying hu, Instr.sureAddr, Instr.sliceBounds, Instr.sliceBound, asIntOf, h0, h1, hsz]
 intro _
 rw [Addr.add_lit]
end
theorem appUint_b {w0 w : World} {F : List Seg} {s : Seg} {p : Option Addr} {n c : Nat} {xs : List Value} (H : Hp w0 w (s :: F)) (ho : OwnZ 5 p n c xs s) (ht : GTab F) {u : Nat} (hu : u < 18446744073709551616) (hb : n + 20 ≤ 140737488355328) : Ret Tryz.prog 137 [.slice p n c, .int .u64 (u : Nat), .int .i64 10] w fun v w' => ∃ p' c' s', v = .slice p' (n + (Lib.decDigits u).length) c' ∧ OwnZ 5 p' (n + (Lib.decDigits u).length) c' (xs ++ bL (Lib.decDigits u)) s' ∧ Hp w0 w' (s' :: F) := by
 refine Calls.of_J (n := 36) Tryz.func137 rfl rfl rfl (J.seq (J.region (JL.g (RX.assign) (JL.nil (J.seq (J.seq (J.region (JL.mi rfl (JL.g (RX.eq rfl rfl) (JL.nil (J.cond_t rfl (by decide) (J.seq (J.seq (J.region (JL.mi rfl (JL.g (RX.lt rfl rfl) (JL.nil (J.cond_d rfl (fun hsm => ?_) (fun hsm => ?_)))))))))))))))))))
 ·
  refine J.seq (J.region (JL.ms rfl (JL.mi rfl (JL.g (RX.conv rfl (by rw [ki86]; rfl) ki3 (w_i64 (r := (u : Int)) (by omega) (by omega) (by omega))) ?_))))
  refine JL.e (EX.call rfl cl170 rfl ((small_b H (by omega)))) ?_
  rintro _ w ⟨rfl, H⟩
  have hnd := Lib.decDigits_length u
  have hn20 := Lib.nDigits_le20 u hu
  refine JL.e (EX.appendZ (m := (Lib.decDigits u).length) (ys := bL (Lib.decDigits u)) (L' := fun s' => s' :: F) H elB rfl rfl (yv := .string ⟨(Lib.decDigits u).toArray⟩) (src_str _) (i := 0) rfl ho (by omega) (fun _ => rfl)) ?_
  rintro _ w ⟨p', c', s', rfl, ho', H⟩
  refine JL.al rfl (JL.nil (J.ret1 (v := .slice _ _ _) Tryz.func137 rfl rfl ?_))
  exact ⟨_, rfl, p', c', s', rfl, ho', H⟩
 ·
  refine J.skip (J.seq (J.region (JL.e (EX.alloc H (v := .agg (bz 24).toArray) (l := bz 24) (by kernel_rfl) rfl) ?_)))
  rintro _ w ⟨b7, rfl, H⟩
  refine JL.nil (J.seq (J.region (JL.mi rfl (JL.e (EX.call rfl cl171 rfl ((numDigits_b H ht.cons.cons (by omega) hu))) ?_))))
  rintro _ w ⟨rfl, H⟩
  refine JL.ai rfl (JL.nil ?_)
  have hnd := Lib.decDigits_length u
  have hn20 := Lib.nDigits_le20 u hu
  have hp10 : u < 10 ^ Lib.nDigits u := Lib.lt_pow_nDigits u
  refine J.seq (J.region (JL.mi rfl (JL.g (RX.sliceArr rfl rfl ar225 (by omega) (by omega) (r := Lib.nDigits u) rfl) (JL.mi rfl (JL.e (EX.call rfl cl172 rfl ((fmt_b H (by omega) hu (by omega) hp10))) ?_)))))
  rintro _ w ⟨rfl, r, H⟩
  refine JL.nil (J.seq (J.region (JL.ms rfl (JL.mi rfl (JL.g (RX.sliceArr rfl rfl ar225 (by omega) (by omega) (r := Lib.nDigits u) rfl) (JL.e (EX.appendZ (m := Lib.nDigits u) (ys := bL (Lib.decDigits u)) (L' := fun s' => [(b7, cel (bL (Lib.decDigits u) ++ r) 225)] :: s' :: F) H elB rfl rfl (src_slice (e' := 5) H (by kernel_rfl) (SlAt.here List.take_left) (by rw [bL_len, hnd]) (bL_cell _)) (i := 1) rfl ho (by omega) (fun _ => rfl)) ?_))))))
  rintro _ w ⟨p', c', s', rfl, ho', H⟩
  replace H := H.drop
  refine JL.al rfl (JL.nil (J.ret1 (v := .slice _ _ _) Tryz.func137 rfl rfl ?_))
  exact ⟨_, rfl, p', c', s', by rw [hnd], by rw [hnd]; exact ho', H⟩
theorem appInt_i {w0 w : World} {F : List Seg} {s : Seg} {p : Option Addr} {n c : Nat} {xs : List Value} (H : Hp w0 w (s :: F)) (ho : OwnZ 5 p n c xs s) (ht : GTab F) {i : Int} (h0 : -9223372036854775808 ≤ i) (h1 : i ≤ 9223372036854775807) (hb : n + 21 ≤ 140737488355328) : Ret Tryz.prog 113 [.slice p n c, .int .i64 i, .int .i64 10] w fun v w' => ∃ p' c' s', v = .slice p' (n + (Lib.itoa i).length) c' ∧ OwnZ 5 p' (n + (Lib.itoa i).length) c' (xs ++ bL (Lib.itoa i)) s' ∧ Hp w0 w' (s' :: F) := by
 refine Calls.of_J (n := 21) Tryz.func113 rfl rfl rfl (J.seq (J.region (JL.g (RX.assign) (JL.nil (J.seq ?_)))))
 obtain ⟨m, hm, hm2⟩ : ∃ m : Nat, i % 18446744073709551616 = (m : Int) ∧ m < 18446744073709551616 := ⟨(i % 18446744073709551616).toNat, by omega, by omega⟩
 refine J.region (JL.mi rfl (JL.g (RX.conv rfl (by rw [ki2]; rfl) ki86 (r := (m : Int)) (by rw [wrap_u64]; exact hm)) ?_))
 refine JL.ai rfl (JL.nil (J.seq (J.seq (J.region (JL.mi rfl (JL.g (RX.lt rfl rfl) (JL.nil (J.cond_d rfl (fun hneg => ?_) (fun hneg => ?_)))))))))
 ·
  have him : i = -((18446744073709551616 - m : Nat) : Int) := by omega
  refine J.seq (J.region (JL.ms rfl (JL.e (EX.buildSlice1 (v := .int _ _) H elB rfl rfl) ?_)))
  rintro _ w ⟨br, rfl, H⟩
  refine JL.e (EX.appendZ (m := 1) (ys := [.int .u8 45]) (L' := fun s' => [(br, cel [.int .u8 45] 5)] :: s' :: F) H elB rfl rfl (src_slice (e' := 5) H (by kernel_rfl) (SlAt.here rfl) rfl (by simp [isCell])) (i := 1) rfl ho (by omega) (fun _ => rfl)) ?_
  rintro _ w ⟨p1, c1, s1, rfl, ho1, H⟩
  replace H := H.drop
  refine JL.al rfl (JL.nil (J.region (JL.mi rfl (JL.g (RX.neg rfl (r := ((18446744073709551616 - m : Nat) : Int)) (by rw [wrap_u64]; omega)) ?_))))
  refine JL.ai rfl (JL.nil (J.seq (J.region (JL.ms rfl (JL.mi rfl (JL.mi rfl (JL.e (EX.call rfl cl137 rfl ((appUint_b H ho1 ht (u := 18446744073709551616 - m) (by omega) (by omega)))) ?_)))))))
  rintro _ w ⟨p2, c2, s2, rfl, ho2, H⟩
  refine JL.al rfl (JL.nil (J.ret1 (v := .slice _ _ _) Tryz.func113 rfl rfl ?_))
  have e : Lib.itoa i = 45 :: Lib.decDigits (18446744073709551616 - m) := by rw [him]; exact Lib.itoa_neg _ (by omega)
  have hl : n + 1 + (Lib.decDigits (18446744073709551616 - m)).length = n + (45 :: Lib.decDigits (18446744073709551616 - m)).length := by simp; omega
  have hx : xs ++ [Value.int .u8 45] ++ bL (Lib.decDigits (18446744073709551616 - m)) = xs ++ bL (45 :: Lib.decDigits (18446744073709551616 - m)) := by simp [bL]
  rw [hl, hx] at ho2
  rw [hl, e]
  exact ⟨_, rfl, p2, c2, s2, rfl, ho2, H⟩
 ·
  have him : i = (m : Int) := by omega
  refine J.skip (J.seq (J.region (JL.ms rfl (JL.mi rfl (JL.mi rfl (JL.e (EX.call rfl cl137 rfl ((appUint_b H ho ht (u := m) (by omega) (by omega)))) ?_))))))
  rintro _ w ⟨p2, c2, s2, rfl, ho2, H⟩
  refine JL.al rfl (JL.nil (J.ret1 (v := .slice _ _ _) Tryz.func113 rfl rfl ?_))
  have e : Lib.itoa i = Lib.decDigits m := by rw [him]; exact Lib.itoa_nonneg m
  rw [e]
  exact ⟨_, rfl, p2, c2, s2, rfl, ho2, H⟩
theorem appInt_b {w0 w : World} {F : List Seg} {s : Seg} {p : Option Addr} {n c : Nat} {xs : List Value} (H : Hp w0 w (s :: F)) (ho : OwnZ 5 p n c xs s) (ht : GTab F) {i : Int} (h0 : -9223372036854775808 ≤ i) (h1 : i ≤ 9223372036854775807) (hb : n + 21 ≤ 140737488355328) : Ret Tryz.prog 86 [.slice p n c, .int .i64 i, .int .i64 10] w fun v w' => ∃ p' c' s', v = .slice p' (n + (Lib.itoa i).length) c' ∧ OwnZ 5 p' (n + (Lib.itoa i).length) c' (xs ++ bL (Lib.itoa i)) s' ∧ Hp w0 w' (s' :: F) := by
 refine Calls.of_J (n := 11) Tryz.func86 rfl rfl rfl (J.seq (J.region (JL.g (RX.assign) (JL.nil (J.seq (J.region (JL.ms rfl (JL.mi rfl (JL.mi rfl (JL.e (EX.call rfl cl113 rfl ((appInt_i H ho ht h0 h1 hb))) ?_))))))))))
 rintro _ w ⟨p2, c2, s2, rfl, ho2, H⟩
 refine JL.al rfl (JL.nil (J.ret1 (v := .slice _ _ _) Tryz.func86 rfl rfl ?_))
 exact ⟨_, rfl, p2, c2, s2, rfl, ho2, H⟩
end Oo
end Go.Proofs.YtfaokllgaambjaaGreatDoor
namespace Go.Proofs.YtfaokllgaambjaaGreatDoor
open Go Go.Eng
set_option maxRecDepth 100000
set_option maxHeartbeats 1600000
namespace Oo
inductive Tr where
  | node (k n : Int) (kids : List Tr)
mutual
def Tr.parts : Tr → Nat
  | .node _ _ ks => 1 + partsL ks
def partsL : List Tr → Nat
  | [] => 0
  | t :: ts => t.parts + partsL ts
end
mutual
def Tr.depth : Tr → Nat
  | .node _ _ ks => depthL ks + 1
def depthL : List Tr → Nat
  | [] => 0
  | t :: ts => max t.depth (depthL ts)
end
theorem partsL_get : ∀ {ks : List Tr} {i : Nat} {t : Tr}, ks[i]? = some t → t.parts ≤ partsL ks
  | [], _, _, h => by simp at h
  | x :: ks, 0, t, h => by
    have : x = t := by simpa using h
    subst this
    rw [partsL]; omega
  | x :: ks, i + 1, t, h => by
    have := partsL_get (ks := ks) (i := i) (by simpa using h)
    rw [partsL]; omega
theorem parts_pos (t : Tr) : 1 ≤ t.parts := by
 cases t; rw [Tr.parts]; omega
theorem partsL_len : ∀ ks : List Tr, ks.length ≤ partsL ks
  | [] => Nat.zero_le _
  | t :: ts => by
    have := partsL_len ts
    have := parts_pos t
    rw [partsL, List.length_cons]; omega
theorem kid_lt {k n : Int} {ks : List Tr} {i : Nat} {t : Tr} (h : ks[i]? = some t) : t.parts < (Tr.node k n ks).parts := by
 have := partsL_get h
 rw [Tr.parts]; omega
theorem depth_pos (t : Tr) : 1 ≤ t.depth := by
 cases t; rw [Tr.depth]; omega
theorem take_get {α : Type} {l : List α} {i : Nat} {a : α} (h : l[i]? = some a) : l.take (i + 1) = l.take i ++ [a] := by
 rw [List.take_add_one, h]; rfl
theorem depth_parts : (∀ t : Tr, t.depth ≤ t.parts) := by
 have key : ∀ m, (∀ t : Tr, t.parts ≤ m → t.depth ≤ t.parts) := by
   intro m
   induction m with
   | zero => intro t h; have := parts_pos t; omega
   | succ m ih =>
     intro t h
     obtain ⟨k, n, ks⟩ := t
     rw [Tr.parts] at h ⊢
     rw [Tr.depth]
     have : ∀ l : List Tr, partsL l ≤ m → depthL l ≤ partsL l := by
       intro l
       induction l with
       | nil => intro _; simp [depthL]
       | cons x l ihl =>
         intro hl
         rw [partsL] at hl ⊢
         rw [depthL]
         have := ih x (by omega)
         have := ihl (by omega)
         omega
     have := this ks (by omega)
     omega
 exact fun t => key _ t (Nat.le_refl _)
def lw (t : Tr) (d c : Nat) : Int × Nat :=
  match t with
  | .node k n ks =>
    if 4096 < c + 1 ∨ 16 < d then (0, c + 1)
    else if k = 1 ∧ ks.length = 0 ∧ 1 ≤ n ∧ n ≤ 64 then (n, c + 1)
    else if k = 2 ∧ ks.length = 0 ∧ 2 ≤ n ∧ n ≤ 5 then (n, c + 1)
    else match ks with
      | [a, b] =>
        if k = 3 ∧ n = 0 then
          if (lw a (d + 1) (c + 1)).1 < 2 then (0, (lw a (d + 1) (c + 1)).2)
          else if (lw b (d + 1) (lw a (d + 1) (c + 1)).2).1 < 2 ∨ 16384 < (lw a (d + 1) (c + 1)).1 * (lw b (d + 1) (lw a (d + 1) (c + 1)).2).1 then (0, (lw b (d + 1) (lw a (d + 1) (c + 1)).2).2)
          else ((lw a (d + 1) (c + 1)).1 * (lw b (d + 1) (lw a (d + 1) (c + 1)).2).1, (lw b (d + 1) (lw a (d + 1) (c + 1)).2).2)
        else (0, c + 1)
      | [a] =>
        if k = 4 ∧ 2 ≤ n ∧ n ≤ 16384 then
          if (lw a (d + 1) (c + 1)).1 < 2 * n - 1 then (0, (lw a (d + 1) (c + 1)).2) else (n, (lw a (d + 1) (c + 1)).2)
        else (0, c + 1)
      | _ => (0, c + 1)
termination_by t.parts
decreasing_by all_goals simp only [Tr.parts, partsL]; omega
def len (t : Tr) : Int :=
  match t with
  | .node k n ks =>
    if k = 1 then (if 1 ≤ n ∧ n ≤ 64 ∧ ks.length = 0 then n else 0)
    else if k = 2 then (if 2 ≤ n ∧ n ≤ 5 ∧ ks.length = 0 then n else 0)
    else if k = 3 then
      match ks with
      | [a, b] => if n = 0 then (if 2 ≤ len a ∧ 2 ≤ len b ∧ len a ≤ (16384 : Int).tdiv (len b) then len a * len b else 0) else 0
      | _ => 0
    else if k = 4 then
      match ks with
      | [a] => if 2 ≤ n ∧ n ≤ 8192 then (if 2 * n - 1 ≤ len a then n else 0) else 0
      | _ => 0
    else 0
termination_by t.parts
decreasing_by all_goals simp only [Tr.parts, partsL]; omega
def lenO (t : Tr) : Int := (lw t 1 0).1
def lenR (t : Tr) : Int := if t.parts ≤ 4096 ∧ t.depth ≤ 16 then len t else 0
theorem mul_le_div {x y : Int} (hy : 2 ≤ y) : x ≤ (16384 : Int).tdiv y ↔ x * y ≤ 16384 := by
 rw [Int.tdiv_eq_ediv_of_nonneg (by decide)]
 exact Int.le_ediv_iff_mul_le (by omega)
theorem len_range : ∀ (m : Nat) (t : Tr), t.parts ≤ m → 0 ≤ len t ∧ len t ≤ 16384
  | 0, t, h => by have := parts_pos t; omega
  | m + 1, t, h => by
    obtain ⟨k, n, ks⟩ := t
    rw [len.eq_def]
    dsimp only
    split
    · split <;> omega
    · split
      · split <;> omega
      · split
        · split
          · rename_i a b
            rw [Tr.parts, partsL, partsL] at h
            have ha := len_range m a (by omega)
            have hb := len_range m b (by omega)
            split
            · split
              · rename_i hc
                obtain ⟨h1, h2, h3⟩ := hc
                rw [mul_le_div h2] at h3
                exact ⟨Int.mul_nonneg ha.1 hb.1, h3⟩
              · omega
            · omega
          · omega
        · split
          · split
            · split
              · split <;> omega
              · omega
            · omega
          · omega
theorem lw_law : ∀ (m : Nat) (t : Tr) (d c : Nat), t.parts ≤ m →
 ((c + t.parts ≤ 4096 ∧ d + t.depth ≤ 17) → (lw t d c).1 = len t) ∧ ((lw t d c).1 ≠ 0 → c + t.parts ≤ 4096 ∧ d + t.depth ≤ 17 ∧ (lw t d c).2 = c + t.parts) ∧ 0 ≤ (lw t d c).1 ∧ (lw t d c).1 ≤ 16384 ∧ (lw t d c).2 ≤ c + t.parts
 | 0, t, _, _, h => by have := parts_pos t; omega
 | m + 1, t, d, c, h => by
   obtain ⟨k, n, ks⟩ := t
   have hdp := depth_pos (.node k n ks)
   have hpp := parts_pos (.node k n ks)
   rw [lw.eq_def]
   dsimp only
   split
   · rename_i h0
     exact ⟨fun h1 => by omega, fun h1 => absurd rfl h1, by simp, by simp, by simp; omega⟩
   · rename_i h0
     split
     · rename_i h1
       obtain ⟨hk, hl, hn1, hn2⟩ := h1
       obtain rfl := List.eq_nil_of_length_eq_zero hl
       refine ⟨fun _ => by rw [len.eq_def]; dsimp only; rw [if_pos hk, if_pos ⟨hn1, hn2, rfl⟩], fun _ => ?_, by simp only; omega, by simp only; omega, by simp only; omega⟩
       have e1 : (Tr.node k n []).parts = 1 := by simp [Tr.parts, partsL]
       have e2 : (Tr.node k n []).depth = 1 := by simp [Tr.depth, depthL]
       rw [e1, e2]
       exact ⟨by omega, by omega, rfl⟩
     · rename_i h1
       split
       · rename_i h2
         obtain ⟨hk, hl, hn1, hn2⟩ := h2
         obtain rfl := List.eq_nil_of_length_eq_zero hl
         refine ⟨fun _ => by rw [len.eq_def]; dsimp only; rw [if_neg (by omega), if_pos hk, if_pos ⟨hn1, hn2, rfl⟩], fun _ => ?_, by simp only; omega, by simp only; omega, by simp only; omega⟩
         have e1 : (Tr.node k n []).parts = 1 := by simp [Tr.parts, partsL]
         have e2 : (Tr.node k n []).depth = 1 := by simp [Tr.depth, depthL]
         rw [e1, e2]
         exact ⟨by omega, by omega, rfl⟩
       · rename_i h2
         split
         · rename_i a b
           have ep : (Tr.node k n [a, b]).parts = 1 + (a.parts + b.parts) := by simp only [Tr.parts, partsL]; omega
           have ed : (Tr.node k n [a, b]).depth = max a.depth b.depth + 1 := by simp only [Tr.depth, depthL]; omega
           rw [ep] at h hpp ⊢
           rw [ed] at hdp ⊢
           have ha := lw_law m a (d + 1) (c + 1) (by omega)
           have hb := lw_law m b (d + 1) (lw a (d + 1) (c + 1)).2 (by omega)
           have rb := len_range _ b (Nat.le_refl _)
           have ra := len_range _ a (Nat.le_refl _)
           split
           · rename_i h3
             obtain ⟨rfl, rfl⟩ := h3
             have el : len (.node 3 0 [a, b]) = if 2 ≤ len a ∧ 2 ≤ len b ∧ len a ≤ (16384 : Int).tdiv (len b) then len a * len b else 0 := by
               rw [len.eq_def]; dsimp only; rw [if_neg (by decide), if_neg (by decide), if_pos rfl, if_pos rfl]
             rw [el]
             generalize lw a (d + 1) (c + 1) = x at ha hb ⊢
             obtain ⟨x, c1⟩ := x
             simp only at ha hb ⊢
             generalize lw b (d + 1) c1 = y at hb ⊢
             obtain ⟨y, c2⟩ := y
             simp only at hb ⊢
             obtain ⟨a1, a2, a3, a4, a5⟩ := ha
             obtain ⟨b1, b2, b3, b4, b5⟩ := hb
             split
             · rename_i hx
               refine ⟨fun hc => ?_, fun hc => absurd rfl hc, by simp, by simp, by simp only; omega⟩
               rw [if_neg (fun hh => ?_)]
               have := a1 ⟨by omega, by omega⟩
               omega
             · rename_i hx
               obtain ⟨a6, a7, a8⟩ := a2 (by omega)
               split
               · rename_i hy
                 refine ⟨fun hc => ?_, fun hc => absurd rfl hc, by simp, by simp, by simp only; omega⟩
                 have e1 := a1 ⟨by omega, by omega⟩
                 have e2 := b1 ⟨by omega, by omega⟩
                 rw [if_neg (fun hh => ?_)]
                 obtain ⟨g1, g2, g3⟩ := hh
                 rw [mul_le_div g2, ← e1, ← e2] at g3
                 omega
               · rename_i hy
                 obtain ⟨b6, b7, b8⟩ := b2 (by omega)
                 have e1 := a1 ⟨by omega, by omega⟩
                 have e2 := b1 ⟨by omega, by omega⟩
                 refine ⟨fun _ => ?_, fun _ => ⟨by omega, by omega, by simp only; omega⟩, Int.mul_nonneg a3 b3, by simp only; omega, by simp only; omega⟩
                 rw [if_pos ⟨by omega, by omega, by rw [mul_le_div (by omega), ← e1, ← e2]; omega⟩, e1, e2]
           · rename_i h3
             refine ⟨fun _ => ?_, fun hc => absurd rfl hc, by simp, by simp, by simp only; omega⟩
             rw [len.eq_def]
             dsimp only
             simp only [List.length_cons, List.length_nil]
             split
             · split <;> omega
             · split
               · split <;> omega
               · split
                 · split <;> first | omega | rfl
                 · split <;> rfl
         · rename_i a
           have ep : (Tr.node k n [a]).parts = 1 + a.parts := by simp only [Tr.parts, partsL]; omega
           have ed : (Tr.node k n [a]).depth = a.depth + 1 := by simp only [Tr.depth, depthL]; omega
           rw [ep] at h hpp ⊢
           rw [ed] at hdp ⊢
           have ha := lw_law m a (d + 1) (c + 1) (by omega)
           have ra := len_range _ a (Nat.le_refl _)
           split
           · rename_i h3
             obtain ⟨rfl, hn1, hn2⟩ := h3
             have el : len (.node 4 n [a]) = if 2 ≤ n ∧ n ≤ 8192 then (if 2 * n - 1 ≤ len a then n else 0) else 0 := by
               rw [len.eq_def]; dsimp only; rw [if_neg (by decide), if_neg (by decide), if_neg (by decide), if_pos rfl]
             rw [el]
             generalize lw a (d + 1) (c + 1) = x at ha ⊢
             obtain ⟨x, c1⟩ := x
             simp only at ha ⊢
             obtain ⟨a1, a2, a3, a4, a5⟩ := ha
             split
             · rename_i hx
               refine ⟨fun hc => ?_, fun hc => absurd rfl hc, by simp, by simp, by simp only; omega⟩
               have e1 := a1 ⟨by omega, by omega⟩
               split
               · rw [if_neg (by omega)]
               · rfl
             · rename_i hx
               obtain ⟨a6, a7, a8⟩ := a2 (by omega)
               have e1 := a1 ⟨by omega, by omega⟩
               refine ⟨fun _ => ?_, fun _ => ⟨by omega, by omega, by simp only; omega⟩, by simp only; omega, by simp only; omega, by simp only; omega⟩
               rw [if_pos (by omega), if_pos (by omega)]
           · rename_i h3
             refine ⟨fun _ => ?_, fun hc => absurd rfl hc, by simp, by simp, by simp only; omega⟩
             rw [len.eq_def]
             dsimp only
             simp only [List.length_cons, List.length_nil]
             split
             · split <;> omega
             · split
               · split <;> omega
               · split
                 · rfl
                 · split
                   · split <;> first | omega | rfl
                   · rfl
         · rename_i hn2 hn1
           refine ⟨fun _ => ?_, fun hc => absurd rfl hc, by simp, by simp, by simp only; omega⟩
           rw [len.eq_def]
           dsimp only
           split
           · split <;> omega
           · split
             · split <;> omega
             · split
               · split
                 · rename_i a b _
                   exact absurd rfl (hn2 a b)
                 · rfl
               · split
                 · split
                   · rename_i a _
                     exact absurd rfl (hn1 a)
                   · rfl
                 · rfl
theorem len_law (t : Tr) : lenO t = lenR t := by
 have h := lw_law _ t 1 0 (Nat.le_refl _)
 unfold lenO lenR
 split
 · exact h.1 (by omega)
 · rename_i hn
   by_cases h0 : (lw t 1 0).1 = 0
   · exact h0
   · have := h.2.1 h0
     omega
def bindP {α β : Type} (p : Option α × List UInt8) (f : α → List UInt8 → Option β × List UInt8) : Option β × List UInt8 :=
  match p with
  | (none, r) => (none, r)
  | (some a, r) => f a r
def takeP : List UInt8 → List UInt8 → Option Unit × List UInt8
  | [], s => (some (), s)
  | _ :: _, [] => (none, [])
  | c :: cs, x :: s => if x = c then takeP cs s else (none, x :: s)
def digs : Nat → Nat → List UInt8 → Nat × List UInt8
  | 0, n, s => (n, s)
  | _ + 1, n, [] => (n, [])
  | k + 1, n, c :: s => if (48 ≤ c.toNat ∧ c.toNat ≤ 57) ∧ ¬ (k = 5 ∧ c.toNat = 48) then digs k (10 * n + (c.toNat - 48)) s else (n, c :: s)
def numP (s : List UInt8) : Option Nat × List UInt8 := if (digs 6 0 s).1 = 0 then (none, (digs 6 0 s).2) else (some (digs 6 0 s).1, (digs 6 0 s).2)
def pO : Nat → List UInt8 → Option Tr × List UInt8
  | 0, s => (none, s)
  | _ + 1, [] => (none, [])
  | m + 1, c :: s =>
    if c.toNat = 100 then bindP (numP s) fun n r => (some (.node 1 (n : Nat) []), r)
    else if c.toNat = 102 then bindP (numP s) fun n r => (some (.node 2 (n : Nat) []), r)
    else if c.toNat = 98 then bindP (numP s) fun n r => bindP (takeP [40] r) fun _ r => bindP (pO m r) fun t r => bindP (takeP [41] r) fun _ r => (some (.node 4 (n : Nat) [t]), r)
    else if c.toNat = 40 then bindP (pO m s) fun a r => bindP (takeP [32, 120, 32] r) fun _ r => bindP (pO m r) fun b r => bindP (takeP [41] r) fun _ r => (some (.node 3 0 [a, b]), r)
    else (none, c :: s)
theorem bind_suf {α β : Type} {p : Option α × List UInt8} {f : α → List UInt8 → Option β × List UInt8} {s : List UInt8} (h : p.2 <:+ s) (hf : ∀ a r, r <:+ s → (f a r).2 <:+ s) : (bindP p f).2 <:+ s := by
 obtain ⟨o, r⟩ := p
 cases o with
 | none => exact h
 | some a => exact hf a r h
theorem take_suf : ∀ (t s : List UInt8), (takeP t s).2 <:+ s
  | [], s => List.suffix_refl s
  | _ :: _, [] => List.suffix_refl []
  | c :: cs, x :: s => by
    rw [takeP]
    split
    · exact (take_suf cs s).trans (List.suffix_cons x s)
    · exact List.suffix_refl _
theorem digs_suf : ∀ (k n : Nat) (s : List UInt8), (digs k n s).2 <:+ s
  | 0, _, s => List.suffix_refl s
  | _ + 1, _, [] => List.suffix_refl []
  | k + 1, n, c :: s => by
    rw [digs]
    split
    · exact (digs_suf k _ s).trans (List.suffix_cons c s)
    · exact List.suffix_refl _
theorem num_suf (s : List UInt8) : (numP s).2 <:+ s := by
 unfold numP
 split <;> exact digs_suf 6 0 s
theorem pO_suf : ∀ (m : Nat) (s : List UInt8), (pO m s).2 <:+ s
  | 0, s => List.suffix_refl s
  | _ + 1, [] => List.suffix_refl []
  | m + 1, c :: s => by
    have up : ∀ {r : List UInt8}, r <:+ s → r <:+ c :: s := fun h => h.trans (List.suffix_cons c s)
    rw [pO]
    split
    · exact bind_suf (up (num_suf s)) (fun _ r h => h)
    · split
      · exact bind_suf (up (num_suf s)) (fun _ r h => h)
      · split
        · refine bind_suf (up (num_suf s)) (fun _ r h => bind_suf ((take_suf _ r).trans h) (fun _ r2 h2 => bind_suf ((pO_suf m r2).trans h2) (fun _ r3 h3 => bind_suf ((take_suf _ r3).trans h3) (fun _ r4 h4 => h4))))
        · split
          · refine bind_suf (up (pO_suf m s)) (fun _ r h => bind_suf ((take_suf _ r).trans h) (fun _ r2 h2 => bind_suf ((pO_suf m r2).trans h2) (fun _ r3 h3 => bind_suf ((take_suf _ r3).trans h3) (fun _ r4 h4 => h4))))
          · exact List.suffix_refl _
def posn (s r : List UInt8) : Nat := s.length - r.length
theorem posn_nil (s : List UInt8) : posn s [] = s.length := by simp [posn]
theorem posn_self (s : List UInt8) : posn s s = 0 := by simp [posn]
theorem posn_succ {s r : List UInt8} {c : UInt8} (h : c :: r <:+ s) : posn s (c :: r) + 1 = posn s r ∧ posn s (c :: r) < s.length := by
 have := h.length_le
 simp only [List.length_cons] at this
 simp only [posn, List.length_cons]
 omega
theorem posn_get {s r : List UInt8} {c : UInt8} (h : c :: r <:+ s) : s[posn s (c :: r)]? = some c := by
 obtain ⟨p, rfl⟩ := h
 have : posn (p ++ c :: r) (c :: r) = p.length := by simp [posn]
 rw [this]
 simp
theorem posn_le {s r : List UInt8} : posn s r ≤ s.length := Nat.sub_le _ _
theorem suf_tail {s r : List UInt8} {c : UInt8} (h : c :: r <:+ s) : r <:+ s := (List.suffix_cons c r).trans h
mutual
def Tr.Is (L : List Seg) : Tr → List Value → Prop
  | .node k n ks, vs => ∃ p c xs, vs = [.int .i64 k, .int .i64 n, .slice p ks.length c] ∧ SlAt L p xs ∧ KidsIs L ks xs
def KidsIs (L : List Seg) : List Tr → List Value → Prop
  | [], xs => xs = []
  | t :: ts, xs => ∃ a b, xs = a ++ b ∧ t.Is L a ∧ KidsIs L ts b
end
mutual
def Tr.Own : Tr → List Value → Seg → Prop
  | .node k n ks, vs, s => ∃ p c xs sl ss, vs = [.int .i64 k, .int .i64 n, .slice p ks.length c] ∧ OwnSl 39 3 p ks.length c xs sl ∧ KidsOwn ks xs ss ∧ s = sl ++ ss
def KidsOwn : List Tr → List Value → Seg → Prop
  | [], xs, s => xs = [] ∧ s = []
  | t :: ts, xs, s => ∃ a b s1 s2, xs = a ++ b ∧ s = s1 ++ s2 ∧ t.Own a s1 ∧ KidsOwn ts b s2
end
theorem Tr.Is.len3 {L : List Seg} {t : Tr} {vs : List Value} (h : t.Is L vs) : vs.length = 3 := by
 obtain ⟨k, n, ks⟩ := t
 rw [Tr.Is] at h
 obtain ⟨p, c, xs, rfl, _⟩ := h
 rfl
theorem KidsIs.len : ∀ {L : List Seg} {ks : List Tr} {xs : List Value}, KidsIs L ks xs → xs.length = ks.length * 3
  | L, [], xs, h => by rw [KidsIs] at h; rw [h]; rfl
  | L, t :: ts, xs, h => by
    rw [KidsIs] at h
    obtain ⟨a, b, rfl, ha, hb⟩ := h
    rw [List.length_append, ha.len3, hb.len, List.length_cons]; omega
theorem KidsIs.get : ∀ {L : List Seg} {ks : List Tr} {xs : List Value} {i : Nat} {t : Tr}, KidsIs L ks xs → ks[i]? = some t → ∃ a, readN xs (i * 3) 3 = some a ∧ t.Is L a
  | L, [], xs, i, t, h, hi => by simp at hi
  | L, x :: ts, xs, 0, t, h, hi => by
    rw [KidsIs] at h
    obtain ⟨a, b, rfl, ha, hb⟩ := h
    have : x = t := by simpa using hi
    subst this
    refine ⟨a, ?_, ha⟩
    have h3 := ha.len3
    unfold readN
    rw [Nat.zero_mul, List.drop_zero, List.take_append_of_le_length (by omega), List.take_of_length_le (by omega)]
    simp [h3]
  | L, x :: ts, xs, i + 1, t, h, hi => by
    rw [KidsIs] at h
    obtain ⟨a, b, rfl, ha, hb⟩ := h
    obtain ⟨v, h1, h2⟩ := hb.get (i := i) (by simpa using hi)
    refine ⟨v, ?_, h2⟩
    have h3 := ha.len3
    unfold readN at h1 ⊢
    rw [show (i + 1) * 3 = a.length + i * 3 by omega, List.drop_length_add_append]
    exact h1
mutual
theorem Tr.Is.mono {L L' : List Seg} (hs : ∀ e, e ∈ L.flatten → e ∈ L'.flatten) : ∀ {t : Tr} {vs : List Value}, t.Is L vs → t.Is L' vs
  | .node k n ks, vs, h => by
    rw [Tr.Is] at h ⊢
    obtain ⟨p, c, xs, hv, hl, hk⟩ := h
    exact ⟨p, c, xs, hv, hl.perm hs, KidsIs.mono hs hk⟩
theorem KidsIs.mono {L L' : List Seg} (hs : ∀ e, e ∈ L.flatten → e ∈ L'.flatten) : ∀ {ks : List Tr} {xs : List Value}, KidsIs L ks xs → KidsIs L' ks xs
  | [], xs, h => by rw [KidsIs] at h ⊢; exact h
  | t :: ts, xs, h => by
    rw [KidsIs] at h ⊢
    obtain ⟨a, b, hx, ha, hb⟩ := h
    exact ⟨a, b, hx, Tr.Is.mono hs ha, KidsIs.mono hs hb⟩
end
theorem Tr.Is.cons {L : List Seg} {s : Seg} {t : Tr} {vs : List Value} (h : t.Is L vs) : t.Is (s :: L) vs := h.mono fun e he => by
  simp only [List.flatten_cons, List.mem_append]; exact .inr he
mutual
theorem Tr.Own.in_ {L : List Seg} : ∀ {t : Tr} {vs : List Value} {s : Seg}, t.Own vs s → (∀ e ∈ s, e ∈ L.flatten) → t.Is L vs
  | .node k n ks, vs, s, h, hs => by
    rw [Tr.Own] at h
    rw [Tr.Is]
    obtain ⟨p, c, xs, sl, ss, hv, ho, hk, rfl⟩ := h
    refine ⟨p, c, xs, hv, ?_, KidsOwn.in_ hk (fun e he => hs e (List.mem_append_right _ he))⟩
    exact (ho.slAt (L := [])).perm fun e he => hs e (List.mem_append_left _ (by simpa using he))
theorem KidsOwn.in_ {L : List Seg} : ∀ {ks : List Tr} {xs : List Value} {s : Seg}, KidsOwn ks xs s → (∀ e ∈ s, e ∈ L.flatten) → KidsIs L ks xs
  | [], xs, s, h, _ => by rw [KidsOwn] at h; rw [KidsIs]; exact h.1
  | t :: ts, xs, s, h, hs => by
    rw [KidsOwn] at h
    rw [KidsIs]
    obtain ⟨a, b, s1, s2, hx, rfl, ha, hb⟩ := h
    exact ⟨a, b, hx, Tr.Own.in_ ha (fun e he => hs e (List.mem_append_left _ he)), KidsOwn.in_ hb (fun e he => hs e (List.mem_append_right _ he))⟩
end
theorem Tr.Own.is {L : List Seg} {t : Tr} {vs : List Value} {s : Seg} (h : t.Own vs s) : t.Is (s :: L) vs := h.in_ fun e he => by
  simp only [List.flatten_cons, List.mem_append]; exact .inl he
theorem KidsOwn.snoc : ∀ {ks : List Tr} {xs : List Value} {s : Seg} {t : Tr} {a : List Value} {s1 : Seg}, KidsOwn ks xs s → t.Own a s1 → KidsOwn (ks ++ [t]) (xs ++ a) (s ++ s1)
  | [], xs, s, t, a, s1, h, ht => by
    rw [KidsOwn] at h
    obtain ⟨rfl, rfl⟩ := h
    rw [List.nil_append, KidsOwn]
    exact ⟨a, [], s1, [], by simp, by simp, ht, by rw [KidsOwn]; exact ⟨rfl, rfl⟩⟩
  | x :: ks, xs, s, t, a, s1, h, ht => by
    rw [KidsOwn] at h
    obtain ⟨a1, b1, s2, s3, rfl, rfl, h1, h2⟩ := h
    rw [List.cons_append, KidsOwn]
    exact ⟨a1, b1 ++ a, s2, s3 ++ s1, by simp, by simp, h1, h2.snoc ht⟩
theorem KidsOwn.nil : KidsOwn [] [] [] := by rw [KidsOwn]; exact ⟨rfl, rfl⟩
theorem KidsOwn.one {t : Tr} {a : List Value} {s : Seg} (h : t.Own a s) : KidsOwn [t] a s := by
 have := KidsOwn.nil.snoc h
 simpa using this
theorem KidsOwn.two {t u : Tr} {a b : List Value} {s s2 : Seg} (h : t.Own a s) (h2 : u.Own b s2) : KidsOwn [t, u] (a ++ b) (s ++ s2) := (KidsOwn.one h).snoc h2
theorem Tr.Own.mk {k n : Int} {ks : List Tr} {p : Option Addr} {c : Nat} {xs : List Value} {sl ss : Seg} (h : OwnSl 39 3 p ks.length c xs sl) (hk : KidsOwn ks xs ss) : (Tr.node k n ks).Own [.int .i64 k, .int .i64 n, .slice p ks.length c] (sl ++ ss) := by
 rw [Tr.Own]
 exact ⟨p, c, xs, sl, ss, rfl, h, hk, rfl⟩
theorem Tr.Own.leaf {k n : Int} : (Tr.node k n []).Own [.int .i64 k, .int .i64 n, .slice none 0 0] [] := Tr.Own.mk (sl := []) (ss := []) OwnSl.nil KidsOwn.nil
theorem OwnSl.all {e size n : Nat} {b : Nat} {xs : List Value} (h : xs.length = n * size) : OwnSl e size (some ⟨b, 0, none⟩) n n xs [(b, cel xs e)] :=
  ⟨h, .inr ⟨b, xs, rfl, rfl, Nat.le_refl _, h, List.take_length⟩⟩
end Oo
end Go.Proofs.YtfaokllgaambjaaGreatDoor
namespace Go.Proofs.YtfaokllgaambjaaGreatDoor
open Go Go.Eng
set_option maxRecDepth 100000
set_option maxHeartbeats 1600000
theorem ag39 : aggOf Tryz.prog 39 = some 3 := by kernel_rfl
theorem cl78 : callable Tryz.prog 78 = true := by kernel_rfl
theorem fo39_2 : fieldOff Tryz.prog 39 2 = some 2 := by kernel_rfl
theorem one37 : oneOf Tryz.prog 37 = true := by kernel_rfl
theorem sl37 : sliceOf Tryz.prog 37 = some (39, 3) := by kernel_rfl
theorem sz37 : szOf Tryz.prog 37 = some 1 := by kernel_rfl
theorem sz39 : szOf Tryz.prog 39 = some 3 := by kernel_rfl
theorem zr39 : (Tryz.prog.info? 39).bind (·.zero) = some (.agg #[.int .i64 0, .int .i64 0, .slice none 0 0]) := by kernel_rfl
namespace Oo
@[reducible] def tv (k n : Int) (p : Option Addr) (m c : Nat) : List Value := [.int .i64 k, .int .i64 n, .slice p m c]
theorem tr_ind {C : Tr → Prop} (h : ∀ t, (∀ t', t'.parts < t.parts → C t') → C t) : ∀ t, C t := fun t => (measure Tr.parts).wf.induction t h
theorem Tr.Is.shape {L : List Seg} {t : Tr} {vs : List Value} (h : t.Is L vs) : ∃ k n p m c, vs = tv k n p m c := by
 obtain ⟨k, n, ks⟩ := t
 rw [Tr.Is] at h
 obtain ⟨p, c, xs, rfl, _⟩ := h
 exact ⟨_, _, _, _, _, rfl⟩
theorem Tr.Own.shape {t : Tr} {vs : List Value} {s : Seg} (h : t.Own vs s) : ∃ k n p m c, vs = tv k n p m c := by
 obtain ⟨k, n, ks⟩ := t
 rw [Tr.Own] at h
 obtain ⟨p, c, xs, sl, ss, rfl, _⟩ := h
 exact ⟨_, _, _, _, _, rfl⟩
theorem tv_cell {k n : Int} {p : Option Addr} {m c : Nat} : ∀ v ∈ tv k n p m c, isCell v = true := by simp [isCell]
theorem elO : Elem Tryz.prog 37 39 3 40 := Elem.of (by kernel_rfl)
def CopyC (t : Tr) : Prop := t.parts ≤ 4194304 → ∀ (w0 w : World) (F : List Seg) (vs : List Value), Hp w0 w F → t.Is F vs →
  Ret Tryz.prog 78 [.agg vs.toArray] w fun v w' => ∃ vs' s, v = .agg vs'.toArray ∧ t.Own vs' s ∧ Hp w0 w' (s :: F)
theorem spot_some {F : List Seg} {p : Option Addr} {xs : List Value} (hs : SlAt F p xs) (h : 0 < xs.length) : ∃ pb po, p = some ⟨pb, po, none⟩ := by
 rcases hs with e | ⟨b', off, C, T, fz, e, _⟩
 · rw [e] at h; exact absurd h (by simp)
 · exact ⟨b', off, e⟩
theorem Direct_b {w0 w : World} {F : List Seg} (H : Hp w0 w F) {n : Int} : Ret Tryz.prog 74 [.int .i64 n] w fun v w' => v = .agg (tv 1 n none 0 0).toArray ∧ Hp w0 w' F := by
 refine Calls.of_J (n := 5) Tryz.func74 rfl rfl rfl (J.seq (J.region (JL.e (EX.alloc H zr39 rfl) ?_)))
 rintro _ w ⟨b1, rfl, H⟩
 refine JL.nil (J.seq (J.region (JL.mi rfl (JL.g (RX.build (pv := [(0, .int .i64 1), (1, .int .i64 n)]) (res := tv 1 n none 0 0) rfl (by kernel_rfl)) (JL.e (EX.storeAgg H rfl rfl (i := 0) (vs := tv 1 n none 0 0) (l' := tv 1 n none 0 0) rfl tv_cell (by simp) sz39 rfl rfl) ?_)))))
 rintro _ w H
 refine JL.nil (J.retc Tryz.func74 rfl H rfl (i := 0) (vs := tv 1 n none 0 0) rfl rfl ag39 ?_)
 exact ⟨_, rfl, rfl, H.drop⟩
theorem Fly_b {w0 w : World} {F : List Seg} (H : Hp w0 w F) {n : Int} : Ret Tryz.prog 76 [.int .i64 n] w fun v w' => v = .agg (tv 2 n none 0 0).toArray ∧ Hp w0 w' F := by
 refine Calls.of_J (n := 5) Tryz.func76 rfl rfl rfl (J.seq (J.region (JL.e (EX.alloc H zr39 rfl) ?_)))
 rintro _ w ⟨b1, rfl, H⟩
 refine JL.nil (J.seq (J.region (JL.mi rfl (JL.g (RX.build (pv := [(0, .int .i64 2), (1, .int .i64 n)]) (res := tv 2 n none 0 0) rfl (by kernel_rfl)) (JL.e (EX.storeAgg H rfl rfl (i := 0) (vs := tv 2 n none 0 0) (l' := tv 2 n none 0 0) rfl tv_cell (by simp) sz39 rfl rfl) ?_)))))
 rintro _ w H
 refine JL.nil (J.retc Tryz.func76 rfl H rfl (i := 0) (vs := tv 2 n none 0 0) rfl rfl ag39 ?_)
 exact ⟨_, rfl, rfl, H.drop⟩
theorem copied_step {k n : Int} {ks : List Tr} (ih : ∀ t, t.parts < (Tr.node k n ks).parts → CopyC t) (hp : (Tr.node k n ks).parts ≤ 4194304) {w0 w : World} {F : List Seg} (H : Hp w0 w F) {p : Option Addr} {c : Nat} {xs : List Value} (hs : SlAt F p xs) (hk : KidsIs F ks xs) : Ret Tryz.prog 78 [.agg (tv k n p ks.length c).toArray] w fun v w' => ∃ vs' s, v = .agg vs'.toArray ∧ (Tr.node k n ks).Own vs' s ∧ Hp w0 w' (s :: F) := by
 refine Calls.of_J (n := 24) Tryz.func78 rfl rfl rfl (J.seq ?_)
 have hkl := partsL_len ks
 have hpp : (Tr.node k n ks).parts = 1 + partsL ks := by rw [Tr.parts]
 refine J.region (JL.e (EX.box (v := .agg _) H rfl rfl) ?_)
 rintro _ w ⟨b1, rfl, H⟩
 refine JL.e (EX.alloc H zr39 rfl) ?_
 rintro _ w ⟨b2, rfl, H⟩
 refine JL.nil (J.seq (J.region (JL.g (RX.fieldAddr rfl fo39_2 rfl) (JL.g (RX.load H rfl (i := 1) (v := .slice p ks.length c) rfl rfl one37) (JL.al rfl (JL.nil (J.seq (J.region (JL.g (RX.fieldAddr rfl fo39_2 rfl) (JL.e (EX.store (v := .slice _ _ _) H rfl rfl (i := 1) (l' := tv k n none 0 0) rfl rfl (by simp) sz37 rfl rfl) ?_))))))))))
 rintro _ w H
 refine JL.nil (J.seq (J.seq (J.region (JL.ms rfl (JL.g (RX.len_slice rfl (by rw [sl37]; rfl) rfl) ?_)))))
 refine JL.g (RX.move) (JL.nil (J.block (J.loop (ι := Nat × Option Addr × Nat × List Value × Seg × Seg) (S := fun z => [(11, .int .i64 (z.1 : Nat))]) (Φ := fun z w => z.1 ≤ ks.length ∧ OwnSl 39 3 z.2.1 z.1 z.2.2.1 z.2.2.2.1 z.2.2.2.2.1 ∧ KidsOwn (ks.take z.1) z.2.2.2.1 z.2.2.2.2.2 ∧ Hp w0 w ([(b2, cel (tv 0 0 none 0 0) 39)] :: [(b1, cel (tv k n z.2.1 z.1 z.2.2.1) 39)] :: z.2.2.2.2.1 :: z.2.2.2.2.2 :: F)) (μ := fun z => ks.length - z.1) (C := [(1, _), (2, _), (9, _), (10, _)]) (0, none, 0, [], [], []) ⟨rfl, rfl, rfl, rfl, trivial⟩ ⟨rfl, trivial⟩ ?_ ?_)))
 · exact ⟨by simp, OwnSl.nil, KidsOwn.nil, ((H.nil.nil).pull 3 rfl).pull 3 rfl⟩
 clear H
 rintro ⟨i, q, c2, ys, sl, ss⟩ ρ w ⟨hi, ho, hko, H⟩ IH
 simp only at hi ho hko H
 dsimp only
 refine J.seq (J.region (JL.g (RX.lt rfl rfl) (JL.nil (J.seq (J.cond_d rfl (fun hlt => ?_) (fun hlt => ?_))))))
 ·
  have hil : i < ks.length := by omega
  obtain ⟨t1, ht1⟩ : ∃ t1, ks[i]? = some t1 := ⟨_, List.getElem?_eq_getElem hil⟩
  have htp := kid_lt (k := k) (n := n) ht1
  obtain ⟨a1, ha1, hi1⟩ := hk.get ht1
  obtain ⟨k1, n1, p1, m1, c1, rfl⟩ := hi1.shape
  have hxl := hk.len
  have H0 := H
  obtain ⟨pb, po, rfl⟩ := spot_some hs (by omega)
  have H := H0
  refine J.skip (J.seq (J.block (J.seq (J.region (JL.g (RX.indexAddr rfl rfl sl37 (by omega) (by omega) (o' := po + i * 3) (by omega)) (JL.g (RX.loadAggS H hs.cons.cons.cons.cons rfl (j := i * 3) (by omega) (vs := tv k1 n1 p1 m1 c1) ha1 ag39) (JL.e (EX.alloc H zr39 rfl) ?_)))))))
  rintro _ w ⟨b5, rfl, H⟩
  refine JL.e (EX.storeAgg H rfl rfl (i := 0) (vs := tv k1 n1 p1 m1 c1) (l' := tv k1 n1 p1 m1 c1) rfl tv_cell (by simp) sz39 rfl rfl) ?_
  rintro _ w H
  refine JL.nil (J.any hmix fun w hs => ?_)
  replace H := H.same hs; clear hs
  refine JA.take 0 rfl (by kernel_rfl) (by kernel_rfl) (by kernel_rfl) rfl trivial (fun w => RX.fieldAddr rfl fo39_2 rfl) (JA.all [1, 2] (by kernel_rfl) (by decide) (⟨?_, ?_⟩))
  ·
   refine JO.go rfl rfl trivial (RX.load H rfl (i := 2) (v := .slice q i c2) rfl rfl one37) (JA.all [2] (by kernel_rfl) (by decide) (JO.go rfl rfl trivial (RX.loadAgg H rfl (i := 0) (vs := tv k1 n1 p1 m1 c1) rfl rfl ag39) (JA.all [3] (by kernel_rfl) (by decide) (JO.does rfl rfl trivial (EX.call rfl cl78 rfl ((ih t1 htp (by omega) _ _ _ _ H hi1.cons.cons.cons.cons.cons))) ?_))))
   rintro _ w ⟨vs1, s1, rfl, ho1, H⟩
   obtain ⟨k2, n2, p2, m2, c3, rfl⟩ := ho1.shape
   refine JA.all [4] (by kernel_rfl) (by decide) (JO.does rfl rfl trivial (EX.buildSlice (pv := [(0, .agg (tv k2 n2 p2 m2 c3).toArray)]) (l := tv k2 n2 p2 m2 c3) (e := 39) H rfl (by kernel_rfl)) ?_)
   rintro _ w ⟨bb, rfl, H⟩
   refine JA.all [5] (by kernel_rfl) (by decide) (JO.does rfl rfl trivial (EX.append (ys := tv k2 n2 p2 m2 c3) (L' := fun s' => [(bb, cel (tv k2 n2 p2 m2 c3) 39)] :: s1 :: [(b5, cel (tv k1 n1 p1 m1 c1) 39)] :: [(b2, cel (tv 0 0 none 0 0) 39)] :: [(b1, cel (tv k n q i c2) 39)] :: s' :: ss :: F) H elO rfl rfl (i := 5) rfl ho (SlAt.here rfl) rfl tv_cell (by decide) (by omega) (by omega) (fun _ => rfl)) ?_)
   rintro _ w ⟨q2, c4, sl2, rfl, ho2, H⟩
   refine JA.take 6 rfl (by kernel_rfl) (by kernel_rfl) (by kernel_rfl) rfl trivial (fun w => RX.fieldAddr rfl fo39_2 rfl) (JA.all [7] (by kernel_rfl) (by decide) (JO.does rfl rfl trivial (EX.store (v := .slice _ _ _) H rfl rfl (i := 4) (l' := tv k n q2 (i + 1) c4) rfl rfl (by simp) sz37 rfl rfl) ?_))
   rintro _ w H
   refine JA.done (by kernel_rfl) (J.inBlock (J.region (JL.g (RX.add rfl rfl (w_i64 (r := ((i + 1 : Nat) : Int)) (by omega) (by omega) (by omega))) (JL.mi rfl (JL.nil ?_)))))
   have hko2 := hko.snoc ho1
   rw [← take_get ht1] at hko2
   exact IH (i + 1, q2, c4, ys ++ tv k2 n2 p2 m2 c3, sl2, ss ++ s1) _ _ (by simp only; omega) ⟨rfl, rfl, rfl, rfl, trivial⟩ ⟨rfl, trivial⟩ ⟨by simp only; omega, ho2, hko2, ((((((H.drop.pull 1 rfl).drop).pull 4 rfl).join.pull 3 rfl).pull 3 rfl).pull 3 rfl)⟩
  ·
   refine JO.go rfl rfl trivial (RX.loadAgg H rfl (i := 0) (vs := tv k1 n1 p1 m1 c1) rfl rfl ag39) (JA.all [1, 3] (by kernel_rfl) (by decide) (⟨?_, ?_⟩))
   ·
    refine JO.go rfl rfl trivial (RX.load H rfl (i := 2) (v := .slice q i c2) rfl rfl one37) (JA.all [3] (by kernel_rfl) (by decide) (JO.does rfl rfl trivial (EX.call rfl cl78 rfl ((ih t1 htp (by omega) _ _ _ _ H hi1.cons.cons.cons.cons.cons))) ?_))
    rintro _ w ⟨vs1, s1, rfl, ho1, H⟩
    obtain ⟨k2, n2, p2, m2, c3, rfl⟩ := ho1.shape
    refine JA.all [4] (by kernel_rfl) (by decide) (JO.does rfl rfl trivial (EX.buildSlice (pv := [(0, .agg (tv k2 n2 p2 m2 c3).toArray)]) (l := tv k2 n2 p2 m2 c3) (e := 39) H rfl (by kernel_rfl)) ?_)
    rintro _ w ⟨bb, rfl, H⟩
    refine JA.all [5] (by kernel_rfl) (by decide) (JO.does rfl rfl trivial (EX.append (ys := tv k2 n2 p2 m2 c3) (L' := fun s' => [(bb, cel (tv k2 n2 p2 m2 c3) 39)] :: s1 :: [(b5, cel (tv k1 n1 p1 m1 c1) 39)] :: [(b2, cel (tv 0 0 none 0 0) 39)] :: [(b1, cel (tv k n q i c2) 39)] :: s' :: ss :: F) H elO rfl rfl (i := 5) rfl ho (SlAt.here rfl) rfl tv_cell (by decide) (by omega) (by omega) (fun _ => rfl)) ?_)
    rintro _ w ⟨q2, c4, sl2, rfl, ho2, H⟩
    refine JA.take 6 rfl (by kernel_rfl) (by kernel_rfl) (by kernel_rfl) rfl trivial (fun w => RX.fieldAddr rfl fo39_2 rfl) (JA.all [7] (by kernel_rfl) (by decide) (JO.does rfl rfl trivial (EX.store (v := .slice _ _ _) H rfl rfl (i := 4) (l' := tv k n q2 (i + 1) c4) rfl rfl (by simp) sz37 rfl rfl) ?_))
    rintro _ w H
    refine JA.done (by kernel_rfl) (J.inBlock (J.region (JL.g (RX.add rfl rfl (w_i64 (r := ((i + 1 : Nat) : Int)) (by omega) (by omega) (by omega))) (JL.mi rfl (JL.nil ?_)))))
    have hko2 := hko.snoc ho1
    rw [← take_get ht1] at hko2
    exact IH (i + 1, q2, c4, ys ++ tv k2 n2 p2 m2 c3, sl2, ss ++ s1) _ _ (by simp only; omega) ⟨rfl, rfl, rfl, rfl, trivial⟩ ⟨rfl, trivial⟩ ⟨by simp only; omega, ho2, hko2, ((((((H.drop.pull 1 rfl).drop).pull 4 rfl).join.pull 3 rfl).pull 3 rfl).pull 3 rfl)⟩
   ·
    refine JO.does rfl rfl trivial (EX.call rfl cl78 rfl ((ih t1 htp (by omega) _ _ _ _ H hi1.cons.cons.cons.cons.cons))) ?_
    rintro _ w ⟨vs1, s1, rfl, ho1, H⟩
    obtain ⟨k2, n2, p2, m2, c3, rfl⟩ := ho1.shape
    refine JA.all [1, 4] (by kernel_rfl) (by decide) (⟨?_, ?_⟩)
    ·
     refine JO.go rfl rfl trivial (RX.load H rfl (i := 3) (v := .slice q i c2) rfl rfl one37) (JA.all [4] (by kernel_rfl) (by decide) (JO.does rfl rfl trivial (EX.buildSlice (pv := [(0, .agg (tv k2 n2 p2 m2 c3).toArray)]) (l := tv k2 n2 p2 m2 c3) (e := 39) H rfl (by kernel_rfl)) ?_))
     rintro _ w ⟨bb, rfl, H⟩
     refine JA.all [5] (by kernel_rfl) (by decide) (JO.does rfl rfl trivial (EX.append (ys := tv k2 n2 p2 m2 c3) (L' := fun s' => [(bb, cel (tv k2 n2 p2 m2 c3) 39)] :: s1 :: [(b5, cel (tv k1 n1 p1 m1 c1) 39)] :: [(b2, cel (tv 0 0 none 0 0) 39)] :: [(b1, cel (tv k n q i c2) 39)] :: s' :: ss :: F) H elO rfl rfl (i := 5) rfl ho (SlAt.here rfl) rfl tv_cell (by decide) (by omega) (by omega) (fun _ => rfl)) ?_)
     rintro _ w ⟨q2, c4, sl2, rfl, ho2, H⟩
     refine JA.take 6 rfl (by kernel_rfl) (by kernel_rfl) (by kernel_rfl) rfl trivial (fun w => RX.fieldAddr rfl fo39_2 rfl) (JA.all [7] (by kernel_rfl) (by decide) (JO.does rfl rfl trivial (EX.store (v := .slice _ _ _) H rfl rfl (i := 4) (l' := tv k n q2 (i + 1) c4) rfl rfl (by simp) sz37 rfl rfl) ?_))
     rintro _ w H
     refine JA.done (by kernel_rfl) (J.inBlock (J.region (JL.g (RX.add rfl rfl (w_i64 (r := ((i + 1 : Nat) : Int)) (by omega) (by omega) (by omega))) (JL.mi rfl (JL.nil ?_)))))
     have hko2 := hko.snoc ho1
     rw [← take_get ht1] at hko2
     exact IH (i + 1, q2, c4, ys ++ tv k2 n2 p2 m2 c3, sl2, ss ++ s1) _ _ (by simp only; omega) ⟨rfl, rfl, rfl, rfl, trivial⟩ ⟨rfl, trivial⟩ ⟨by simp only; omega, ho2, hko2, ((((((H.drop.pull 1 rfl).drop).pull 4 rfl).join.pull 3 rfl).pull 3 rfl).pull 3 rfl)⟩
    ·
     refine JO.does rfl rfl trivial (EX.buildSlice (pv := [(0, .agg (tv k2 n2 p2 m2 c3).toArray)]) (l := tv k2 n2 p2 m2 c3) (e := 39) H rfl (by kernel_rfl)) ?_
     rintro _ w ⟨bb, rfl, H⟩
     refine JA.all [1] (by kernel_rfl) (by decide) (JO.go rfl rfl trivial (RX.load H rfl (i := 4) (v := .slice q i c2) rfl rfl one37) (JA.all [5] (by kernel_rfl) (by decide) (JO.does rfl rfl trivial (EX.append (ys := tv k2 n2 p2 m2 c3) (L' := fun s' => [(bb, cel (tv k2 n2 p2 m2 c3) 39)] :: s1 :: [(b5, cel (tv k1 n1 p1 m1 c1) 39)] :: [(b2, cel (tv 0 0 none 0 0) 39)] :: [(b1, cel (tv k n q i c2) 39)] :: s' :: ss :: F) H elO rfl rfl (i := 5) rfl ho (SlAt.here rfl) rfl tv_cell (by decide) (by omega) (by omega) (fun _ => rfl)) ?_)))
     rintro _ w ⟨q2, c4, sl2, rfl, ho2, H⟩
     refine JA.take 6 rfl (by kernel_rfl) (by kernel_rfl) (by kernel_rfl) rfl trivial (fun w => RX.fieldAddr rfl fo39_2 rfl) (JA.all [7] (by kernel_rfl) (by decide) (JO.does rfl rfl trivial (EX.store (v := .slice _ _ _) H rfl rfl (i := 4) (l' := tv k n q2 (i + 1) c4) rfl rfl (by simp) sz37 rfl rfl) ?_))
     rintro _ w H
     refine JA.done (by kernel_rfl) (J.inBlock (J.region (JL.g (RX.add rfl rfl (w_i64 (r := ((i + 1 : Nat) : Int)) (by omega) (by omega) (by omega))) (JL.mi rfl (JL.nil ?_)))))
     have hko2 := hko.snoc ho1
     rw [← take_get ht1] at hko2
     exact IH (i + 1, q2, c4, ys ++ tv k2 n2 p2 m2 c3, sl2, ss ++ s1) _ _ (by simp only; omega) ⟨rfl, rfl, rfl, rfl, trivial⟩ ⟨rfl, trivial⟩ ⟨by simp only; omega, ho2, hko2, ((((((H.drop.pull 1 rfl).drop).pull 4 rfl).join.pull 3 rfl).pull 3 rfl).pull 3 rfl)⟩
 ·
  have hil : i = ks.length := by omega
  subst hil
  rw [List.take_length] at hko
  refine J.exit rfl (J.seq (J.region (JL.g (RX.loadAgg H rfl (i := 1) (vs := tv k n q ks.length c2) rfl rfl ag39) (JL.e (EX.storeAgg H rfl rfl (i := 0) (vs := tv k n q ks.length c2) (l' := tv k n q ks.length c2) rfl tv_cell (by simp) sz39 rfl rfl) ?_))))
  rintro _ w H
  refine JL.nil (J.retc Tryz.func78 rfl H rfl (i := 0) (vs := tv k n q ks.length c2) rfl rfl ag39 ?_)
  exact ⟨_, rfl, _, sl ++ ss, rfl, Tr.Own.mk ho hko, H.drop.drop.join⟩
theorem copied_b : ∀ t, CopyC t := tr_ind fun t ih hp w0 w F vs H ht => by
  obtain ⟨k, n, ks⟩ := t
  rw [Tr.Is] at ht
  obtain ⟨p, c, xs, rfl, hs, hk⟩ := ht
  exact copied_step ih hp H hs hk
theorem Times_b {w0 w : World} {F : List Seg} (H : Hp w0 w F) {a b : Tr} {vs us : List Value} (ha : a.Is F vs) (hb : b.Is F us) (hpa : a.parts ≤ 4194304) (hpb : b.parts ≤ 4194304) : Ret Tryz.prog 49 [.agg vs.toArray, .agg us.toArray] w fun v w' => ∃ vs' s, v = .agg vs'.toArray ∧ (Tr.node 3 0 [a, b]).Own vs' s ∧ Hp w0 w' (s :: F) := by
 refine Calls.of_J (n := 11) Tryz.func49 rfl rfl rfl (J.seq ?_)
 obtain ⟨ka, na, pa, ma, ca, rfl⟩ := ha.shape
 obtain ⟨kb, nb, pb, mb, cb, rfl⟩ := hb.shape
 refine J.region (JL.e (EX.box (v := .agg _) H rfl rfl) ?_)
 rintro _ w ⟨b1, rfl, H⟩
 refine JL.e (EX.box (v := .agg _) H rfl rfl) ?_
 rintro _ w ⟨b2, rfl, H⟩
 refine JL.e (EX.alloc H zr39 rfl) ?_
 rintro _ w ⟨b3, rfl, H⟩
 refine JL.nil (J.seq (J.any hmix fun w hs => ?_))
 replace H := H.same hs; clear hs
 refine JA.all [0, 2] (by kernel_rfl) (by decide) (⟨?_, ?_⟩)
 ·
  refine JO.go rfl rfl trivial (RX.loadAgg H rfl (i := 2) (vs := tv ka na pa ma ca) rfl rfl ag39) (JA.all [1, 2] (by kernel_rfl) (by decide) (⟨?_, ?_⟩))
  ·
   refine JO.does rfl rfl trivial (EX.call rfl cl78 rfl ((copied_b a hpa _ _ _ _ H ha.cons.cons.cons))) ?_
   rintro _ w ⟨vs1, s1, rfl, ho1, H⟩
   obtain ⟨ka2, na2, pa2, ma2, ca2, rfl⟩ := ho1.shape
   refine JA.all [2] (by kernel_rfl) (by decide) (JO.go rfl rfl trivial (RX.loadAgg H rfl (i := 2) (vs := tv kb nb pb mb cb) rfl rfl ag39) (JA.all [3] (by kernel_rfl) (by decide) (JO.does rfl rfl trivial (EX.call rfl cl78 rfl ((copied_b b hpb _ _ _ _ H hb.cons.cons.cons.cons))) ?_)))
   rintro _ w ⟨vs2, s2, rfl, ho2, H⟩
   obtain ⟨kb2, nb2, pb2, mb2, cb2, rfl⟩ := ho2.shape
   refine JA.all [4] (by kernel_rfl) (by decide) (JO.does rfl rfl trivial (EX.buildSlice (pv := [(0, .agg (tv ka2 na2 pa2 ma2 ca2).toArray), (1, .agg (tv kb2 nb2 pb2 mb2 cb2).toArray)]) (l := tv ka2 na2 pa2 ma2 ca2 ++ tv kb2 nb2 pb2 mb2 cb2) (e := 39) H rfl (by kernel_rfl)) ?_)
   rintro _ w ⟨bb, rfl, H⟩
   refine JA.take 5 rfl (by kernel_rfl) (by kernel_rfl) (by kernel_rfl) rfl trivial (fun w => RX.build (pv := [(0, .int .i64 3), (2, .slice (some ⟨bb, 0, none⟩) 2 2)]) (res := tv 3 0 (some ⟨bb, 0, none⟩) 2 2) rfl (by kernel_rfl)) (JA.all [6] (by kernel_rfl) (by decide) (JO.does rfl rfl trivial (EX.storeAgg H rfl rfl (i := 3) (vs := tv 3 0 (some ⟨bb, 0, none⟩) 2 2) (l' := tv 3 0 (some ⟨bb, 0, none⟩) 2 2) rfl tv_cell (by simp) sz39 rfl rfl) ?_))
   rintro _ w H
   refine JA.done (by kernel_rfl) (J.retc Tryz.func49 rfl H rfl (i := 3) (vs := tv 3 0 (some ⟨bb, 0, none⟩) 2 2) rfl rfl ag39 ?_)
   exact ⟨_, rfl, _, [(bb, cel (tv ka2 na2 pa2 ma2 ca2 ++ tv kb2 nb2 pb2 mb2 cb2) 39)] ++ (s1 ++ s2), rfl, Tr.Own.mk (OwnSl.all rfl) (KidsOwn.two ho1 ho2), ((((((H.pull 3 rfl).drop.pull 3 rfl).drop.pull 3 rfl).drop).pull 2 rfl).pull 2 rfl |> fun H => (((H.pull 1 rfl).join).pull 1 rfl).join)⟩
  ·
   refine JO.go rfl rfl trivial (RX.loadAgg H rfl (i := 1) (vs := tv kb nb pb mb cb) rfl rfl ag39) (JA.all [1] (by kernel_rfl) (by decide) (JO.does rfl rfl trivial (EX.call rfl cl78 rfl ((copied_b a hpa _ _ _ _ H ha.cons.cons.cons))) ?_))
   rintro _ w ⟨vs1, s1, rfl, ho1, H⟩
   obtain ⟨ka2, na2, pa2, ma2, ca2, rfl⟩ := ho1.shape
   refine JA.all [3] (by kernel_rfl) (by decide) (JO.does rfl rfl trivial (EX.call rfl cl78 rfl ((copied_b b hpb _ _ _ _ H hb.cons.cons.cons.cons))) ?_)
   rintro _ w ⟨vs2, s2, rfl, ho2, H⟩
   obtain ⟨kb2, nb2, pb2, mb2, cb2, rfl⟩ := ho2.shape
   refine JA.all [4] (by kernel_rfl) (by decide) (JO.does rfl rfl trivial (EX.buildSlice (pv := [(0, .agg (tv ka2 na2 pa2 ma2 ca2).toArray), (1, .agg (tv kb2 nb2 pb2 mb2 cb2).toArray)]) (l := tv ka2 na2 pa2 ma2 ca2 ++ tv kb2 nb2 pb2 mb2 cb2) (e := 39) H rfl (by kernel_rfl)) ?_)
   rintro _ w ⟨bb, rfl, H⟩
   refine JA.take 5 rfl (by kernel_rfl) (by kernel_rfl) (by kernel_rfl) rfl trivial (fun w => RX.build (pv := [(0, .int .i64 3), (2, .slice (some ⟨bb, 0, none⟩) 2 2)]) (res := tv 3 0 (some ⟨bb, 0, none⟩) 2 2) rfl (by kernel_rfl)) (JA.all [6] (by kernel_rfl) (by decide) (JO.does rfl rfl trivial (EX.storeAgg H rfl rfl (i := 3) (vs := tv 3 0 (some ⟨bb, 0, none⟩) 2 2) (l' := tv 3 0 (some ⟨bb, 0, none⟩) 2 2) rfl tv_cell (by simp) sz39 rfl rfl) ?_))
   rintro _ w H
   refine JA.done (by kernel_rfl) (J.retc Tryz.func49 rfl H rfl (i := 3) (vs := tv 3 0 (some ⟨bb, 0, none⟩) 2 2) rfl rfl ag39 ?_)
   exact ⟨_, rfl, _, [(bb, cel (tv ka2 na2 pa2 ma2 ca2 ++ tv kb2 nb2 pb2 mb2 cb2) 39)] ++ (s1 ++ s2), rfl, Tr.Own.mk (OwnSl.all rfl) (KidsOwn.two ho1 ho2), ((((((H.pull 3 rfl).drop.pull 3 rfl).drop.pull 3 rfl).drop).pull 2 rfl).pull 2 rfl |> fun H => (((H.pull 1 rfl).join).pull 1 rfl).join)⟩
 ·
  refine JO.go rfl rfl trivial (RX.loadAgg H rfl (i := 1) (vs := tv kb nb pb mb cb) rfl rfl ag39) (JA.all [0] (by kernel_rfl) (by decide) (JO.go rfl rfl trivial (RX.loadAgg H rfl (i := 2) (vs := tv ka na pa ma ca) rfl rfl ag39) (JA.all [1] (by kernel_rfl) (by decide) (JO.does rfl rfl trivial (EX.call rfl cl78 rfl ((copied_b a hpa _ _ _ _ H ha.cons.cons.cons))) ?_))))
  rintro _ w ⟨vs1, s1, rfl, ho1, H⟩
  obtain ⟨ka2, na2, pa2, ma2, ca2, rfl⟩ := ho1.shape
  refine JA.all [3] (by kernel_rfl) (by decide) (JO.does rfl rfl trivial (EX.call rfl cl78 rfl ((copied_b b hpb _ _ _ _ H hb.cons.cons.cons.cons))) ?_)
  rintro _ w ⟨vs2, s2, rfl, ho2, H⟩
  obtain ⟨kb2, nb2, pb2, mb2, cb2, rfl⟩ := ho2.shape
  refine JA.all [4] (by kernel_rfl) (by decide) (JO.does rfl rfl trivial (EX.buildSlice (pv := [(0, .agg (tv ka2 na2 pa2 ma2 ca2).toArray), (1, .agg (tv kb2 nb2 pb2 mb2 cb2).toArray)]) (l := tv ka2 na2 pa2 ma2 ca2 ++ tv kb2 nb2 pb2 mb2 cb2) (e := 39) H rfl (by kernel_rfl)) ?_)
  rintro _ w ⟨bb, rfl, H⟩
  refine JA.take 5 rfl (by kernel_rfl) (by kernel_rfl) (by kernel_rfl) rfl trivial (fun w => RX.build (pv := [(0, .int .i64 3), (2, .slice (some ⟨bb, 0, none⟩) 2 2)]) (res := tv 3 0 (some ⟨bb, 0, none⟩) 2 2) rfl (by kernel_rfl)) (JA.all [6] (by kernel_rfl) (by decide) (JO.does rfl rfl trivial (EX.storeAgg H rfl rfl (i := 3) (vs := tv 3 0 (some ⟨bb, 0, none⟩) 2 2) (l' := tv 3 0 (some ⟨bb, 0, none⟩) 2 2) rfl tv_cell (by simp) sz39 rfl rfl) ?_))
  rintro _ w H
  refine JA.done (by kernel_rfl) (J.retc Tryz.func49 rfl H rfl (i := 3) (vs := tv 3 0 (some ⟨bb, 0, none⟩) 2 2) rfl rfl ag39 ?_)
  exact ⟨_, rfl, _, [(bb, cel (tv ka2 na2 pa2 ma2 ca2 ++ tv kb2 nb2 pb2 mb2 cb2) 39)] ++ (s1 ++ s2), rfl, Tr.Own.mk (OwnSl.all rfl) (KidsOwn.two ho1 ho2), ((((((H.pull 3 rfl).drop.pull 3 rfl).drop.pull 3 rfl).drop).pull 2 rfl).pull 2 rfl |> fun H => (((H.pull 1 rfl).join).pull 1 rfl).join)⟩
end Oo
end Go.Proofs.YtfaokllgaambjaaGreatDoor
