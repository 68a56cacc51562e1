/- Contracts of the library at this program, written by the kit: sorting, compacting, cloning. -/
import Derived.Shelf.Sort.Plain
import Derived.Shelf.Slices.In.SortNone
import Derived.Test.YtmppcnbkfjeabaaDoorProg
namespace Go.Proofs
open Go.Shelf
def Tryd.lays189_ren : Go.Shelf.Ren := ⟨fun | 189 => 49 | 125 => 65 | 257 => 64 | 128 => 83 | 129 => 84 | 294 => 74 | 295 => 75 | 296 => 76 | 297 => 77 | 298 => 78 | 299 => 79 | 216 => 80 | 300 => 81 | 301 => 82 | 328 => 86 | 329 => 87 | 330 => 88 | 331 => 89 | 332 => 90 | 215 => 91 | 343 => 92 | n => n, fun | 28 => 22 | 3 => 3 | 46 => 41 | 0 => 0 | 51 => 60 | 53 => 88 | 4 => 4 | 183 => 112 | 182 => 111 | 131 => 117 | 5 => 5 | 9 => 9 | 218 => 121 | 222 => 125 | 228 => 127 | 229 => 128 | n => n, fun | n => n⟩
theorem Tryd.lays189 : Go.Proofs.Lays.n189 Tryd.prog Tryd.lays189_ren := {
  mixed := by kernel_rfl
  f125 := Tryd.func65.trans (congrArg some (by kernel_rfl))
  f128 := Tryd.func83.trans (congrArg some (by kernel_rfl))
  f129 := Tryd.func84.trans (congrArg some (by kernel_rfl))
  f189 := Tryd.func49.trans (congrArg some (by kernel_rfl))
  f215 := Tryd.func91.trans (congrArg some (by kernel_rfl))
  f216 := Tryd.func80.trans (congrArg some (by kernel_rfl))
  f257 := Tryd.func64.trans (congrArg some (by kernel_rfl))
  f294 := Tryd.func74.trans (congrArg some (by kernel_rfl))
  f295 := Tryd.func75.trans (congrArg some (by kernel_rfl))
  f296 := Tryd.func76.trans (congrArg some (by kernel_rfl))
  f297 := Tryd.func77.trans (congrArg some (by kernel_rfl))
  f298 := Tryd.func78.trans (congrArg some (by kernel_rfl))
  f299 := Tryd.func79.trans (congrArg some (by kernel_rfl))
  f300 := Tryd.func81.trans (congrArg some (by kernel_rfl))
  f301 := Tryd.func82.trans (congrArg some (by kernel_rfl))
  f328 := Tryd.func86.trans (congrArg some (by kernel_rfl))
  f329 := Tryd.func87.trans (congrArg some (by kernel_rfl))
  f330 := Tryd.func88.trans (congrArg some (by kernel_rfl))
  f331 := Tryd.func89.trans (congrArg some (by kernel_rfl))
  f332 := Tryd.func90.trans (congrArg some (by kernel_rfl))
  f343 := Tryd.func92.trans (congrArg some (by kernel_rfl))
  t0 := Tryd.underlying0
  a0 := Tryd.isAgg0
  z0 := Tryd.sizeOf0
  v0 := Tryd.zeroValue0
  t3 := Tryd.underlying3
  a3 := Tryd.isAgg3
  z3 := Tryd.sizeOf3
  v3 := Tryd.zeroValue3
  t4 := Tryd.underlying4
  a4 := Tryd.isAgg4
  z4 := Tryd.sizeOf4
  v4 := Tryd.zeroValue4
  t5 := Tryd.underlying5
  a5 := Tryd.isAgg5
  z5 := Tryd.sizeOf5
  v5 := Tryd.zeroValue5
  t9 := Tryd.underlying9
  a9 := Tryd.isAgg9
  z9 := Tryd.sizeOf9
  v9 := Tryd.zeroValue9
  t28 := Tryd.underlying22
  a28 := Tryd.isAgg22
  z28 := Tryd.sizeOf22
  v28 := Tryd.zeroValue22
  t46 := Tryd.underlying41
  a46 := Tryd.isAgg41
  z46 := Tryd.sizeOf41
  v46 := Tryd.zeroValue41
  t51 := Tryd.underlying60
  a51 := Tryd.isAgg60
  z51 := Tryd.sizeOf60
  v51 := Tryd.zeroValue60
  t53 := Tryd.underlying88
  a53 := Tryd.isAgg88
  z53 := Tryd.sizeOf88
  v53 := Tryd.zeroValue88
  t131 := Tryd.underlying117
  a131 := Tryd.isAgg117
  z131 := Tryd.sizeOf117
  v131 := Tryd.zeroValue117
  t182 := Tryd.underlying111
  a182 := Tryd.isAgg111
  z182 := Tryd.sizeOf111
  v182 := Tryd.zeroValue111
  t183 := Tryd.underlying112
  a183 := Tryd.isAgg112
  z183 := Tryd.sizeOf112
  v183 := Tryd.zeroValue112
  t218 := Tryd.underlying121
  a218 := Tryd.isAgg121
  z218 := Tryd.sizeOf121
  v218 := Tryd.zeroValue121
  t222 := Tryd.underlying125
  a222 := Tryd.isAgg125
  z222 := Tryd.sizeOf125
  v222 := Tryd.zeroValue125
  t228 := Tryd.underlying127
  a228 := Tryd.isAgg127
  z228 := Tryd.sizeOf127
  v228 := Tryd.zeroValue127
  t229 := Tryd.underlying128
  a229 := Tryd.isAgg128
  z229 := Tryd.sizeOf128
  v229 := Tryd.zeroValue128 }
open Go.Sort Go.RowKit in
theorem Tryd.slices_Sort_int (blk off cap : Nat) (zs : List Int) (w : World) (hH : Holds (Value.int .i64) w blk off zs.toArray) (hblk : blk < w.heap.size) (hsz : zs.length < 4611686018427387904) :
    Calls Tryd.prog 49 #[.slice (some ⟨blk, off, none⟩) zs.length cap] w fun e w' =>
      e = .returned (.tuple #[]) ∧ ∃ n os, w' = grow (putRow (Value.int .i64) (Sort.ahead w n) blk off (zs.mergeSort fun x y => decide (x ≤ y)).toArray) os := Any.slices_Sort_int Tryd.lays189 blk off cap zs w hH hblk hsz
open Go.RowKit Go.Sort in
theorem Tryd.slices_Sort_int_none (p : Option Addr) (cap : Nat) (w : World) :
    Calls Tryd.prog 49 #[.slice p 0 cap] w fun e w' => e = .returned (.tuple #[]) ∧ w' = w := Any.slices_Sort_int_none Tryd.lays189 p cap w
end Go.Proofs
