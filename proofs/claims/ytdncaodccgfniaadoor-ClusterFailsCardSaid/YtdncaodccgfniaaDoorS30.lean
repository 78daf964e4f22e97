/-
  The texts that the claim wants, one behind the other: part 30.
-/
import Derived.Test.YtdncaodccgfniaaDoorS29
import Derived.Test.YtdncaodccgfniaaDoorChecked
import Derived.Shelf.SlLaysF0
import Derived.KernelRfl
set_option linter.unusedSimpArgs false
set_option linter.unusedVariables false
namespace Go.Proofs
set_option maxRecDepth 100000
def Tryd.sortO_ren : Go.Shelf.Ren := ⟨fun | 6 => 24 | 15 => 37 | 14 => 36 | 28 => 59 | 29 => 60 | 20 => 51 | 21 => 52 | 22 => 53 | 23 => 54 | 24 => 55 | 25 => 56 | 26 => 57 | 27 => 58 | 46 => 73 | 47 => 74 | 48 => 75 | 49 => 76 | 50 => 77 | 57 => 80 | n => n, fun | 22 => 37 | 24 => 64 | 25 => 67 | 3 => 3 | 39 => 80 | 0 => 0 | 53 => 107 | 55 => 109 | 4 => 4 | 46 => 101 | 45 => 100 | 50 => 58 | 5 => 5 | 9 => 9 | 66 => 118 | 70 => 122 | 76 => 125 | 77 => 126 | n => n, fun | n => n⟩
theorem Tryd.sortO : SlLaysF0.n6 Tryd.prog Tryd.sortO_ren := {
 mixed := by kernel_rfl
 f6 := ⟨"slices.SortFunc[[]mizzen/api.Object,mizzen/api.Object]", by decide, Tryd.func24.trans (congrArg some (by kernel_rfl))⟩
 f14 := ⟨"slices.pdqsortCmpFunc[mizzen/api.Object]", by decide, Tryd.func36.trans (congrArg some (by kernel_rfl))⟩
 f15 := Tryd.func37.trans (congrArg some (by kernel_rfl))
 f20 := ⟨"slices.insertionSortCmpFunc[mizzen/api.Object]", by decide, Tryd.func51.trans (congrArg some (by kernel_rfl))⟩
 f21 := ⟨"slices.heapSortCmpFunc[mizzen/api.Object]", by decide, Tryd.func52.trans (congrArg some (by kernel_rfl))⟩
 f22 := ⟨"slices.breakPatternsCmpFunc[mizzen/api.Object]", by decide, Tryd.func53.trans (congrArg some (by kernel_rfl))⟩
 f23 := ⟨"slices.choosePivotCmpFunc[mizzen/api.Object]", by decide, Tryd.func54.trans (congrArg some (by kernel_rfl))⟩
 f24 := ⟨"slices.reverseRangeCmpFunc[mizzen/api.Object]", by decide, Tryd.func55.trans (congrArg some (by kernel_rfl))⟩
 f25 := ⟨"slices.partialInsertionSortCmpFunc[mizzen/api.Object]", by decide, Tryd.func56.trans (congrArg some (by kernel_rfl))⟩
 f26 := ⟨"slices.partitionEqualCmpFunc[mizzen/api.Object]", by decide, Tryd.func57.trans (congrArg some (by kernel_rfl))⟩
 f27 := ⟨"slices.partitionCmpFunc[mizzen/api.Object]", by decide, Tryd.func58.trans (congrArg some (by kernel_rfl))⟩
 f28 := Tryd.func59.trans (congrArg some (by kernel_rfl))
 f29 := Tryd.func60.trans (congrArg some (by kernel_rfl))
 f46 := ⟨"slices.siftDownCmpFunc[mizzen/api.Object]", by decide, Tryd.func73.trans (congrArg some (by kernel_rfl))⟩
 f47 := Tryd.func74.trans (congrArg some (by kernel_rfl))
 f48 := Tryd.func75.trans (congrArg some (by kernel_rfl))
 f49 := ⟨"slices.medianAdjacentCmpFunc[mizzen/api.Object]", by decide, Tryd.func76.trans (congrArg some (by kernel_rfl))⟩
 f50 := ⟨"slices.medianCmpFunc[mizzen/api.Object]", by decide, Tryd.func77.trans (congrArg some (by kernel_rfl))⟩
 f57 := ⟨"slices.order2CmpFunc[mizzen/api.Object]", by decide, Tryd.func80.trans (congrArg some (by kernel_rfl))⟩
 t0 := Tryd.underlying0
 a0 := Tryd.isAgg0
 z0 := Tryd.sizeOf0
 v0 := Tryd.zeroValue0
 t3 := Tryd.underlying3
 a3 := Tryd.isAgg3
 z3 := Tryd.sizeOf3
 v3 := Tryd.zeroValue3
 t4 := Tryd.underlying4
 a4 := Tryd.isAgg4
 z4 := Tryd.sizeOf4
 v4 := Tryd.zeroValue4
 t5 := Tryd.underlying5
 a5 := Tryd.isAgg5
 z5 := Tryd.sizeOf5
 v5 := Tryd.zeroValue5
 t9 := Tryd.underlying9
 a9 := Tryd.isAgg9
 z9 := Tryd.sizeOf9
 v9 := Tryd.zeroValue9
 t22 := Tryd.underlying37
 a22 := Tryd.isAgg37
 z22 := Tryd.sizeOf37
 v22 := Tryd.zeroValue37
 t25 := Tryd.underlying67
 a25 := Tryd.isAgg67
 z25 := Tryd.sizeOf67
 v25 := Tryd.zeroValue67
 t39 := Tryd.underlying80
 a39 := Tryd.isAgg80
 z39 := Tryd.sizeOf80
 v39 := Tryd.zeroValue80
 t45 := Tryd.underlying100
 a45 := Tryd.isAgg100
 z45 := Tryd.sizeOf100
 v45 := Tryd.zeroValue100
 t46 := Tryd.underlying101
 a46 := Tryd.isAgg101
 z46 := Tryd.sizeOf101
 v46 := Tryd.zeroValue101
 t50 := Tryd.underlying58
 a50 := Tryd.isAgg58
 z50 := Tryd.sizeOf58
 v50 := Tryd.zeroValue58
 t53 := Tryd.underlying107
 a53 := Tryd.isAgg107
 z53 := Tryd.sizeOf107
 v53 := Tryd.zeroValue107
 t55 := Tryd.underlying109
 a55 := Tryd.isAgg109
 z55 := Tryd.sizeOf109
 v55 := Tryd.zeroValue109
 t66 := Tryd.underlying118
 a66 := Tryd.isAgg118
 z66 := Tryd.sizeOf118
 v66 := Tryd.zeroValue118
 t70 := Tryd.underlying122
 a70 := Tryd.isAgg122
 z70 := Tryd.sizeOf122
 v70 := Tryd.zeroValue122
 t76 := Tryd.underlying125
 a76 := Tryd.isAgg125
 z76 := Tryd.sizeOf125
 v76 := Tryd.zeroValue125
 t77 := Tryd.underlying126
 a77 := Tryd.isAgg126
 z77 := Tryd.sizeOf126
 v77 := Tryd.zeroValue126 }
end Go.Proofs
