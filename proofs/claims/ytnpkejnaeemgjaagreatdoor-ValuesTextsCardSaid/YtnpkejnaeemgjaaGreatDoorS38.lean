/-
  The texts that the claim wants, one behind the other: part 38.
-/
import Derived.Test.YtnpkejnaeemgjaaGreatDoorS37
import Derived.Test.YtnpkejnaeemgjaaGreatDoorChecked
import Derived.Shelf.SlLaysF0
import Derived.KernelRfl
set_option linter.unusedSimpArgs false
set_option linter.unusedVariables false
namespace Go.Proofs
set_option maxRecDepth 100000
def Tryz.sortFl_ren : Go.Shelf.Ren := ⟨fun | 6 => 65 | 15 => 105 | 14 => 104 | 28 => 145 | 29 => 146 | 20 => 137 | 21 => 138 | 22 => 139 | 23 => 140 | 24 => 141 | 25 => 142 | 26 => 143 | 27 => 144 | 46 => 182 | 47 => 183 | 48 => 184 | 49 => 185 | 50 => 186 | 57 => 209 | n => n, fun | 22 => 61 | 24 => 36 | 25 => 99 | 3 => 3 | 39 => 124 | 0 => 0 | 53 => 168 | 55 => 170 | 4 => 4 | 46 => 162 | 45 => 161 | 50 => 90 | 5 => 5 | 9 => 9 | 66 => 198 | 70 => 202 | 76 => 225 | 77 => 226 | n => n, fun | n => n⟩
theorem Tryz.sortFl : SlLaysF0.n6 Tryz.prog Tryz.sortFl_ren := {
 mixed := by kernel_rfl
 f6 := ⟨"slices.SortFunc[[]mizzen/api.File,mizzen/api.File]", by decide, Tryz.func65.trans (congrArg some (by kernel_rfl))⟩
 f14 := ⟨"slices.pdqsortCmpFunc[mizzen/api.File]", by decide, Tryz.func104.trans (congrArg some (by kernel_rfl))⟩
 f15 := Tryz.func105.trans (congrArg some (by kernel_rfl))
 f20 := ⟨"slices.insertionSortCmpFunc[mizzen/api.File]", by decide, Tryz.func137.trans (congrArg some (by kernel_rfl))⟩
 f21 := ⟨"slices.heapSortCmpFunc[mizzen/api.File]", by decide, Tryz.func138.trans (congrArg some (by kernel_rfl))⟩
 f22 := ⟨"slices.breakPatternsCmpFunc[mizzen/api.File]", by decide, Tryz.func139.trans (congrArg some (by kernel_rfl))⟩
 f23 := ⟨"slices.choosePivotCmpFunc[mizzen/api.File]", by decide, Tryz.func140.trans (congrArg some (by kernel_rfl))⟩
 f24 := ⟨"slices.reverseRangeCmpFunc[mizzen/api.File]", by decide, Tryz.func141.trans (congrArg some (by kernel_rfl))⟩
 f25 := ⟨"slices.partialInsertionSortCmpFunc[mizzen/api.File]", by decide, Tryz.func142.trans (congrArg some (by kernel_rfl))⟩
 f26 := ⟨"slices.partitionEqualCmpFunc[mizzen/api.File]", by decide, Tryz.func143.trans (congrArg some (by kernel_rfl))⟩
 f27 := ⟨"slices.partitionCmpFunc[mizzen/api.File]", by decide, Tryz.func144.trans (congrArg some (by kernel_rfl))⟩
 f28 := Tryz.func145.trans (congrArg some (by kernel_rfl))
 f29 := Tryz.func146.trans (congrArg some (by kernel_rfl))
 f46 := ⟨"slices.siftDownCmpFunc[mizzen/api.File]", by decide, Tryz.func182.trans (congrArg some (by kernel_rfl))⟩
 f47 := Tryz.func183.trans (congrArg some (by kernel_rfl))
 f48 := Tryz.func184.trans (congrArg some (by kernel_rfl))
 f49 := ⟨"slices.medianAdjacentCmpFunc[mizzen/api.File]", by decide, Tryz.func185.trans (congrArg some (by kernel_rfl))⟩
 f50 := ⟨"slices.medianCmpFunc[mizzen/api.File]", by decide, Tryz.func186.trans (congrArg some (by kernel_rfl))⟩
 f57 := ⟨"slices.order2CmpFunc[mizzen/api.File]", by decide, Tryz.func209.trans (congrArg some (by kernel_rfl))⟩
 t0 := Tryz.underlying0
 a0 := Tryz.isAgg0
 z0 := Tryz.sizeOf0
 v0 := Tryz.zeroValue0
 t3 := Tryz.underlying3
 a3 := Tryz.isAgg3
 z3 := Tryz.sizeOf3
 v3 := Tryz.zeroValue3
 t4 := Tryz.underlying4
 a4 := Tryz.isAgg4
 z4 := Tryz.sizeOf4
 v4 := Tryz.zeroValue4
 t5 := Tryz.underlying5
 a5 := Tryz.isAgg5
 z5 := Tryz.sizeOf5
 v5 := Tryz.zeroValue5
 t9 := Tryz.underlying9
 a9 := Tryz.isAgg9
 z9 := Tryz.sizeOf9
 v9 := Tryz.zeroValue9
 t22 := Tryz.underlying61
 a22 := Tryz.isAgg61
 z22 := Tryz.sizeOf61
 v22 := Tryz.zeroValue61
 t25 := Tryz.underlying99
 a25 := Tryz.isAgg99
 z25 := Tryz.sizeOf99
 v25 := Tryz.zeroValue99
 t39 := Tryz.underlying124
 a39 := Tryz.isAgg124
 z39 := Tryz.sizeOf124
 v39 := Tryz.zeroValue124
 t45 := Tryz.underlying161
 a45 := Tryz.isAgg161
 z45 := Tryz.sizeOf161
 v45 := Tryz.zeroValue161
 t46 := Tryz.underlying162
 a46 := Tryz.isAgg162
 z46 := Tryz.sizeOf162
 v46 := Tryz.zeroValue162
 t50 := Tryz.underlying90
 a50 := Tryz.isAgg90
 z50 := Tryz.sizeOf90
 v50 := Tryz.zeroValue90
 t53 := Tryz.underlying168
 a53 := Tryz.isAgg168
 z53 := Tryz.sizeOf168
 v53 := Tryz.zeroValue168
 t55 := Tryz.underlying170
 a55 := Tryz.isAgg170
 z55 := Tryz.sizeOf170
 v55 := Tryz.zeroValue170
 t66 := Tryz.underlying198
 a66 := Tryz.isAgg198
 z66 := Tryz.sizeOf198
 v66 := Tryz.zeroValue198
 t70 := Tryz.underlying202
 a70 := Tryz.isAgg202
 z70 := Tryz.sizeOf202
 v70 := Tryz.zeroValue202
 t76 := Tryz.underlying225
 a76 := Tryz.isAgg225
 z76 := Tryz.sizeOf225
 v76 := Tryz.zeroValue225
 t77 := Tryz.underlying226
 a77 := Tryz.isAgg226
 z77 := Tryz.sizeOf226
 v77 := Tryz.zeroValue226 }
end Go.Proofs
