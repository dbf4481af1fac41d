/- Machine side and arithmetic of the law, put together by a program of the session. No conditions. -/
import Derived.Test.YtillaipaanancaaGreatProg
import Derived.Shelf.SlSortCmp.NoneTotal
section
namespace Go.Proofs
open Go.Shelf
def Tryz.sortL_ren : Go.Shelf.Ren := ⟨fun | 6 => 67 | 15 => 115 | 14 => 114 | 28 => 159 | 29 => 160 | 20 => 151 | 21 => 152 | 22 => 153 | 23 => 154 | 24 => 155 | 25 => 156 | 26 => 157 | 27 => 158 | 46 => 178 | 47 => 179 | 48 => 180 | 49 => 181 | 50 => 182 | 57 => 193 | n => n, fun | 22 => 40 | 24 => 23 | 25 => 65 | 3 => 3 | 39 => 138 | 0 => 0 | 53 => 170 | 55 => 79 | 4 => 4 | 46 => 164 | 45 => 163 | 50 => 95 | 5 => 5 | 9 => 9 | 66 => 183 | 70 => 187 | 76 => 195 | 77 => 196 | n => n, fun | n => n⟩
theorem Tryz.sortL : Go.Proofs.SlLaysF.n6 Tryz.prog Tryz.sortL_ren where
 mixed := by kernel_rfl
 f6 := ⟨"slices.SortFunc[[]galois/api.ModPoly,galois/api.ModPoly]", by decide, Tryz.func67.trans (congrArg some (by kernel_rfl))⟩
 f14 := ⟨"slices.pdqsortCmpFunc[galois/api.ModPoly]", by decide, Tryz.func114.trans (congrArg some (by kernel_rfl))⟩
 f15 := Tryz.func115.trans (congrArg some (by kernel_rfl))
 f20 := ⟨"slices.insertionSortCmpFunc[galois/api.ModPoly]", by decide, Tryz.func151.trans (congrArg some (by kernel_rfl))⟩
 f21 := ⟨"slices.heapSortCmpFunc[galois/api.ModPoly]", by decide, Tryz.func152.trans (congrArg some (by kernel_rfl))⟩
 f22 := ⟨"slices.breakPatternsCmpFunc[galois/api.ModPoly]", by decide, Tryz.func153.trans (congrArg some (by kernel_rfl))⟩
 f23 := ⟨"slices.choosePivotCmpFunc[galois/api.ModPoly]", by decide, Tryz.func154.trans (congrArg some (by kernel_rfl))⟩
 f24 := ⟨"slices.reverseRangeCmpFunc[galois/api.ModPoly]", by decide, Tryz.func155.trans (congrArg some (by kernel_rfl))⟩
 f25 := ⟨"slices.partialInsertionSortCmpFunc[galois/api.ModPoly]", by decide, Tryz.func156.trans (congrArg some (by kernel_rfl))⟩
 f26 := ⟨"slices.partitionEqualCmpFunc[galois/api.ModPoly]", by decide, Tryz.func157.trans (congrArg some (by kernel_rfl))⟩
 f27 := ⟨"slices.partitionCmpFunc[galois/api.ModPoly]", by decide, Tryz.func158.trans (congrArg some (by kernel_rfl))⟩
 f28 := Tryz.func159.trans (congrArg some (by kernel_rfl))
 f29 := Tryz.func160.trans (congrArg some (by kernel_rfl))
 f46 := ⟨"slices.siftDownCmpFunc[galois/api.ModPoly]", by decide, Tryz.func178.trans (congrArg some (by kernel_rfl))⟩
 f47 := Tryz.func179.trans (congrArg some (by kernel_rfl))
 f48 := Tryz.func180.trans (congrArg some (by kernel_rfl))
 f49 := ⟨"slices.medianAdjacentCmpFunc[galois/api.ModPoly]", by decide, Tryz.func181.trans (congrArg some (by kernel_rfl))⟩
 f50 := ⟨"slices.medianCmpFunc[galois/api.ModPoly]", by decide, Tryz.func182.trans (congrArg some (by kernel_rfl))⟩
 f57 := ⟨"slices.order2CmpFunc[galois/api.ModPoly]", by decide, Tryz.func193.trans (congrArg some (by kernel_rfl))⟩
 t0 := Tryz.underlying0
 a0 := Tryz.isAgg0
 z0 := Tryz.sizeOf0
 v0 := Tryz.zeroValue0
 t3 := Tryz.underlying3
 a3 := Tryz.isAgg3
 z3 := Tryz.sizeOf3
 v3 := Tryz.zeroValue3
 t4 := Tryz.underlying4
 a4 := Tryz.isAgg4
 z4 := Tryz.sizeOf4
 v4 := Tryz.zeroValue4
 t5 := Tryz.underlying5
 a5 := Tryz.isAgg5
 z5 := Tryz.sizeOf5
 v5 := Tryz.zeroValue5
 t9 := Tryz.underlying9
 a9 := Tryz.isAgg9
 z9 := Tryz.sizeOf9
 v9 := Tryz.zeroValue9
 t22 := Tryz.underlying40
 a22 := Tryz.isAgg40
 z22 := Tryz.sizeOf40
 v22 := Tryz.zeroValue40
 a24 := Tryz.isAgg23
 z24 := Tryz.sizeOf23
 t25 := Tryz.underlying65
 a25 := Tryz.isAgg65
 z25 := Tryz.sizeOf65
 v25 := Tryz.zeroValue65
 t39 := Tryz.underlying138
 a39 := Tryz.isAgg138
 z39 := Tryz.sizeOf138
 v39 := Tryz.zeroValue138
 t45 := Tryz.underlying163
 a45 := Tryz.isAgg163
 z45 := Tryz.sizeOf163
 v45 := Tryz.zeroValue163
 t46 := Tryz.underlying164
 a46 := Tryz.isAgg164
 z46 := Tryz.sizeOf164
 v46 := Tryz.zeroValue164
 t50 := Tryz.underlying95
 a50 := Tryz.isAgg95
 z50 := Tryz.sizeOf95
 v50 := Tryz.zeroValue95
 t53 := Tryz.underlying170
 a53 := Tryz.isAgg170
 z53 := Tryz.sizeOf170
 v53 := Tryz.zeroValue170
 t55 := Tryz.underlying79
 a55 := Tryz.isAgg79
 z55 := Tryz.sizeOf79
 v55 := Tryz.zeroValue79
 t66 := Tryz.underlying183
 a66 := Tryz.isAgg183
 z66 := Tryz.sizeOf183
 v66 := Tryz.zeroValue183
 t70 := Tryz.underlying187
 a70 := Tryz.isAgg187
 z70 := Tryz.sizeOf187
 v70 := Tryz.zeroValue187
 t76 := Tryz.underlying195
 a76 := Tryz.isAgg195
 z76 := Tryz.sizeOf195
 v76 := Tryz.zeroValue195
 t77 := Tryz.underlying196
 a77 := Tryz.isAgg196
 z77 := Tryz.sizeOf196
 v77 := Tryz.zeroValue196
end Go.Proofs
end
