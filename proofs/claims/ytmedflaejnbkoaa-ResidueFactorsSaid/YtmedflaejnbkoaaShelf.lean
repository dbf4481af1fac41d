/- The library's contracts at this program, laid by the shelf's own tools (plain text). No conditions of its own. -/
import Derived.Shelf.Small.Bits
import Derived.Shelf.Strconv.Itoa0
import Derived.Shelf.Sort.Plain
import Derived.Shelf.Bits.Mul64
import Derived.Ground.Names2Prog
import Derived.Shelf.Slices.Clone
import Derived.Shelf.Slices.SearchI
import Derived.Shelf.Slices.In.SortNone
import Derived.Ground.SlgnProg
import Derived.Shelf.SlicesE.Clone
import Derived.Test.YtmedflaejnbkoaaProg
namespace Go.Proofs
open Go.Shelf
def Try.lays189_ren : Go.Shelf.Ren := ⟨fun | 189 => 76 | 125 => 100 | 257 => 99 | 128 => 118 | 129 => 119 | 294 => 109 | 295 => 110 | 296 => 111 | 297 => 112 | 298 => 113 | 299 => 114 | 216 => 115 | 300 => 116 | 301 => 117 | 328 => 126 | 329 => 127 | 330 => 128 | 331 => 129 | 332 => 130 | 215 => 131 | 343 => 133 | n => n, fun | 28 => 33 | 3 => 3 | 46 => 89 | 0 => 0 | 51 => 39 | 53 => 83 | 4 => 4 | 183 => 114 | 182 => 113 | 131 => 29 | 5 => 5 | 9 => 9 | 218 => 124 | 222 => 128 | 228 => 133 | 229 => 134 | n => n, fun | n => n⟩
theorem Try.lays189 : Go.Proofs.Lays.n189 Try.prog Try.lays189_ren := {
  mixed := by kernel_rfl
  f125 := Try.func100.trans (congrArg some (by kernel_rfl))
  f128 := Try.func118.trans (congrArg some (by kernel_rfl))
  f129 := Try.func119.trans (congrArg some (by kernel_rfl))
  f189 := Try.func76.trans (congrArg some (by kernel_rfl))
  f215 := Try.func131.trans (congrArg some (by kernel_rfl))
  f216 := Try.func115.trans (congrArg some (by kernel_rfl))
  f257 := Try.func99.trans (congrArg some (by kernel_rfl))
  f294 := Try.func109.trans (congrArg some (by kernel_rfl))
  f295 := Try.func110.trans (congrArg some (by kernel_rfl))
  f296 := Try.func111.trans (congrArg some (by kernel_rfl))
  f297 := Try.func112.trans (congrArg some (by kernel_rfl))
  f298 := Try.func113.trans (congrArg some (by kernel_rfl))
  f299 := Try.func114.trans (congrArg some (by kernel_rfl))
  f300 := Try.func116.trans (congrArg some (by kernel_rfl))
  f301 := Try.func117.trans (congrArg some (by kernel_rfl))
  f328 := Try.func126.trans (congrArg some (by kernel_rfl))
  f329 := Try.func127.trans (congrArg some (by kernel_rfl))
  f330 := Try.func128.trans (congrArg some (by kernel_rfl))
  f331 := Try.func129.trans (congrArg some (by kernel_rfl))
  f332 := Try.func130.trans (congrArg some (by kernel_rfl))
  f343 := Try.func133.trans (congrArg some (by kernel_rfl))
  t0 := Try.underlying0
  a0 := Try.isAgg0
  z0 := Try.sizeOf0
  v0 := Try.zeroValue0
  t3 := Try.underlying3
  a3 := Try.isAgg3
  z3 := Try.sizeOf3
  v3 := Try.zeroValue3
  t4 := Try.underlying4
  a4 := Try.isAgg4
  z4 := Try.sizeOf4
  v4 := Try.zeroValue4
  t5 := Try.underlying5
  a5 := Try.isAgg5
  z5 := Try.sizeOf5
  v5 := Try.zeroValue5
  t9 := Try.underlying9
  a9 := Try.isAgg9
  z9 := Try.sizeOf9
  v9 := Try.zeroValue9
  t28 := Try.underlying33
  a28 := Try.isAgg33
  z28 := Try.sizeOf33
  v28 := Try.zeroValue33
  t46 := Try.underlying89
  a46 := Try.isAgg89
  z46 := Try.sizeOf89
  v46 := Try.zeroValue89
  t51 := Try.underlying39
  a51 := Try.isAgg39
  z51 := Try.sizeOf39
  v51 := Try.zeroValue39
  t53 := Try.underlying83
  a53 := Try.isAgg83
  z53 := Try.sizeOf83
  v53 := Try.zeroValue83
  t131 := Try.underlying29
  a131 := Try.isAgg29
  z131 := Try.sizeOf29
  v131 := Try.zeroValue29
  t182 := Try.underlying113
  a182 := Try.isAgg113
  z182 := Try.sizeOf113
  v182 := Try.zeroValue113
  t183 := Try.underlying114
  a183 := Try.isAgg114
  z183 := Try.sizeOf114
  v183 := Try.zeroValue114
  t218 := Try.underlying124
  a218 := Try.isAgg124
  z218 := Try.sizeOf124
  v218 := Try.zeroValue124
  t222 := Try.underlying128
  a222 := Try.isAgg128
  z222 := Try.sizeOf128
  v222 := Try.zeroValue128
  t228 := Try.underlying133
  a228 := Try.isAgg133
  z228 := Try.sizeOf133
  v228 := Try.zeroValue133
  t229 := Try.underlying134
  a229 := Try.isAgg134
  z229 := Try.sizeOf134
  v229 := Try.zeroValue134 }
open Go.Sort Go.RowKit in
theorem Try.slices_Sort_int (blk off cap : Nat) (zs : List Int) (w : World) (hH : Holds (Value.int .i64) w blk off zs.toArray) (hblk : blk < w.heap.size) (hsz : zs.length < 4611686018427387904) :
    Calls Try.prog 76 #[.slice (some ⟨blk, off, none⟩) zs.length cap] w fun e w' =>
      e = .returned (.tuple #[]) ∧ ∃ n os, w' = grow (putRow (Value.int .i64) (Sort.ahead w n) blk off (zs.mergeSort fun x y => decide (x ≤ y)).toArray) os := Any.slices_Sort_int Try.lays189 blk off cap zs w hH hblk hsz
def Try.laysNm215_ren : Go.Shelf.Ren := ⟨fun | 15 => 75 | n => n, fun | 22 => 33 | 3 => 3 | 4 => 4 | n => n, fun | n => n⟩
theorem Try.laysNm215 : Go.Proofs.Lays2.n15 Try.prog Try.laysNm215_ren := {
  mixed := by kernel_rfl
  f15 := Try.func75.trans (congrArg some (by kernel_rfl))
  t3 := Try.underlying3
  a3 := Try.isAgg3
  z3 := Try.sizeOf3
  v3 := Try.zeroValue3
  t4 := Try.underlying4
  a4 := Try.isAgg4
  z4 := Try.sizeOf4
  v4 := Try.zeroValue4
  t22 := Try.underlying33
  a22 := Try.isAgg33
  z22 := Try.sizeOf33
  v22 := Try.zeroValue33
  i3 := by kernel_rfl }
open Go.RowKit Go.Lib in
theorem Try.slices_Clone_int (b off n c : Nat) (zs : List Int) (w : World) (hz : n ≤ zs.length) (hbig : n * 8 ≤ 140737488355328) (hc : ∀ j, j < zs.length → w.cell? ⟨b, off + j, none⟩ = some (.int .i64 (zs.getD j 0))) :
    Calls Try.prog 75 #[.slice (some ⟨b, off, none⟩) n c] w fun e w' => ∃ v', e = .returned v' ∧ w'.ownsRow w.heap.size 3 1 v' n ((zs.take n).map (Value.int .i64)) ∧ v' ≠ .slice none 0 0 ∧ Below w.heap.size w w' := Any.slices_Clone_int Try.laysNm215 b off n c zs w hz hbig hc
open Go.RowKit Go.Lib in
theorem Try.slices_Clone_int_nil (n c : Nat) (w : World) :
    Calls Try.prog 75 #[.slice none n c] w fun e w' => e = .returned (.slice none 0 0) ∧ w' = w := Any.slices_Clone_int_nil Try.laysNm215 n c w
open Go.RowKit Go.Lib in
theorem Try.slices_Clone_int_zero (a : Addr) (c : Nat) (w : World) :
    Calls Try.prog 75 #[.slice (some a) 0 c] w fun e w' => ∃ v', e = .returned v' ∧ w'.ownsRow w.heap.size 3 1 v' 0 [] ∧ v' ≠ .slice none 0 0 ∧ Below w.heap.size w w' := Any.slices_Clone_int_zero Try.laysNm215 a c w
open Go.RowKit Go.Sort in
theorem Try.slices_Sort_int_none (p : Option Addr) (cap : Nat) (w : World) :
    Calls Try.prog 76 #[.slice p 0 cap] w fun e w' => e = .returned (.tuple #[]) ∧ w' = w := Any.slices_Sort_int_none Try.lays189 p cap w
end Go.Proofs
