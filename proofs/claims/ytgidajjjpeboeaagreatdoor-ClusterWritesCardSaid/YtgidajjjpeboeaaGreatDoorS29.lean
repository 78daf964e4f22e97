/-
  The texts that the claim wants, one behind the other: part 29.
-/
import Derived.Test.YtgidajjjpeboeaaGreatDoorS28
import Derived.Test.YtgidajjjpeboeaaGreatDoorChecked
import Derived.Shelf.SlLaysF0
import Derived.KernelRfl
set_option linter.unusedSimpArgs false
set_option linter.unusedVariables false
namespace Go.Proofs
set_option maxRecDepth 100000
def Tryz.sortO_ren : Go.Shelf.Ren := ⟨fun | 6 => 39 | 15 => 73 | 14 => 72 | 28 => 117 | 29 => 118 | 20 => 109 | 21 => 110 | 22 => 111 | 23 => 112 | 24 => 113 | 25 => 114 | 26 => 115 | 27 => 116 | 46 => 169 | 47 => 170 | 48 => 171 | 49 => 172 | 50 => 173 | 57 => 195 | n => n, fun | 22 => 38 | 24 => 46 | 25 => 88 | 3 => 3 | 39 => 130 | 0 => 0 | 53 => 175 | 55 => 177 | 4 => 4 | 46 => 169 | 45 => 168 | 50 => 117 | 5 => 5 | 9 => 9 | 66 => 210 | 70 => 214 | 76 => 231 | 77 => 232 | n => n, fun | n => n⟩
theorem Tryz.sortO : SlLaysF0.n6 Tryz.prog Tryz.sortO_ren := {
 mixed := by kernel_rfl
 f6 := ⟨"slices.SortFunc[[]mizzen/api.Object,mizzen/api.Object]", by decide, Tryz.func39.trans (congrArg some (by kernel_rfl))⟩
 f14 := ⟨"slices.pdqsortCmpFunc[mizzen/api.Object]", by decide, Tryz.func72.trans (congrArg some (by kernel_rfl))⟩
 f15 := Tryz.func73.trans (congrArg some (by kernel_rfl))
 f20 := ⟨"slices.insertionSortCmpFunc[mizzen/api.Object]", by decide, Tryz.func109.trans (congrArg some (by kernel_rfl))⟩
 f21 := ⟨"slices.heapSortCmpFunc[mizzen/api.Object]", by decide, Tryz.func110.trans (congrArg some (by kernel_rfl))⟩
 f22 := ⟨"slices.breakPatternsCmpFunc[mizzen/api.Object]", by decide, Tryz.func111.trans (congrArg some (by kernel_rfl))⟩
 f23 := ⟨"slices.choosePivotCmpFunc[mizzen/api.Object]", by decide, Tryz.func112.trans (congrArg some (by kernel_rfl))⟩
 f24 := ⟨"slices.reverseRangeCmpFunc[mizzen/api.Object]", by decide, Tryz.func113.trans (congrArg some (by kernel_rfl))⟩
 f25 := ⟨"slices.partialInsertionSortCmpFunc[mizzen/api.Object]", by decide, Tryz.func114.trans (congrArg some (by kernel_rfl))⟩
 f26 := ⟨"slices.partitionEqualCmpFunc[mizzen/api.Object]", by decide, Tryz.func115.trans (congrArg some (by kernel_rfl))⟩
 f27 := ⟨"slices.partitionCmpFunc[mizzen/api.Object]", by decide, Tryz.func116.trans (congrArg some (by kernel_rfl))⟩
 f28 := Tryz.func117.trans (congrArg some (by kernel_rfl))
 f29 := Tryz.func118.trans (congrArg some (by kernel_rfl))
 f46 := ⟨"slices.siftDownCmpFunc[mizzen/api.Object]", by decide, Tryz.func169.trans (congrArg some (by kernel_rfl))⟩
 f47 := Tryz.func170.trans (congrArg some (by kernel_rfl))
 f48 := Tryz.func171.trans (congrArg some (by kernel_rfl))
 f49 := ⟨"slices.medianAdjacentCmpFunc[mizzen/api.Object]", by decide, Tryz.func172.trans (congrArg some (by kernel_rfl))⟩
 f50 := ⟨"slices.medianCmpFunc[mizzen/api.Object]", by decide, Tryz.func173.trans (congrArg some (by kernel_rfl))⟩
 f57 := ⟨"slices.order2CmpFunc[mizzen/api.Object]", by decide, Tryz.func195.trans (congrArg some (by kernel_rfl))⟩
 t0 := Tryz.underlying0
 a0 := Tryz.isAgg0
 z0 := Tryz.sizeOf0
 v0 := Tryz.zeroValue0
 t3 := Tryz.underlying3
 a3 := Tryz.isAgg3
 z3 := Tryz.sizeOf3
 v3 := Tryz.zeroValue3
 t4 := Tryz.underlying4
 a4 := Tryz.isAgg4
 z4 := Tryz.sizeOf4
 v4 := Tryz.zeroValue4
 t5 := Tryz.underlying5
 a5 := Tryz.isAgg5
 z5 := Tryz.sizeOf5
 v5 := Tryz.zeroValue5
 t9 := Tryz.underlying9
 a9 := Tryz.isAgg9
 z9 := Tryz.sizeOf9
 v9 := Tryz.zeroValue9
 t22 := Tryz.underlying38
 a22 := Tryz.isAgg38
 z22 := Tryz.sizeOf38
 v22 := Tryz.zeroValue38
 t25 := Tryz.underlying88
 a25 := Tryz.isAgg88
 z25 := Tryz.sizeOf88
 v25 := Tryz.zeroValue88
 t39 := Tryz.underlying130
 a39 := Tryz.isAgg130
 z39 := Tryz.sizeOf130
 v39 := Tryz.zeroValue130
 t45 := Tryz.underlying168
 a45 := Tryz.isAgg168
 z45 := Tryz.sizeOf168
 v45 := Tryz.zeroValue168
 t46 := Tryz.underlying169
 a46 := Tryz.isAgg169
 z46 := Tryz.sizeOf169
 v46 := Tryz.zeroValue169
 t50 := Tryz.underlying117
 a50 := Tryz.isAgg117
 z50 := Tryz.sizeOf117
 v50 := Tryz.zeroValue117
 t53 := Tryz.underlying175
 a53 := Tryz.isAgg175
 z53 := Tryz.sizeOf175
 v53 := Tryz.zeroValue175
 t55 := Tryz.underlying177
 a55 := Tryz.isAgg177
 z55 := Tryz.sizeOf177
 v55 := Tryz.zeroValue177
 t66 := Tryz.underlying210
 a66 := Tryz.isAgg210
 z66 := Tryz.sizeOf210
 v66 := Tryz.zeroValue210
 t70 := Tryz.underlying214
 a70 := Tryz.isAgg214
 z70 := Tryz.sizeOf214
 v70 := Tryz.zeroValue214
 t76 := Tryz.underlying231
 a76 := Tryz.isAgg231
 z76 := Tryz.sizeOf231
 v76 := Tryz.zeroValue231
 t77 := Tryz.underlying232
 a77 := Tryz.isAgg232
 z77 := Tryz.sizeOf232
 v77 := Tryz.zeroValue232 }
end Go.Proofs
