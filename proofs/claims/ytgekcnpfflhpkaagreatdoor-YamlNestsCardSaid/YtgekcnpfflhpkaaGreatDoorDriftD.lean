/-
  Functions of the program as instructions.
-/
import Derived.Test.YtgekcnpfflhpkaaGreatDoorChecked
import Derived.Test.YtgekcnpfflhpkaaGreatDoorAF
import Derived.KernelRfl
namespace Go.Proofs.YtgekcnpfflhpkaaGreatDoor
set_option maxRecDepth 100000

/-- mizzen tree.Int -/
def b_tree_Int : ACode :=
  .seq (.reg [⟨none, .alloc 2 [.int .i64 0, .bool false, .int .i64 0, .str ⟨#[]⟩, .lst .nil 6 [], .lst .nil 7 []]⟩]) (.seq (.reg [⟨none, .mov 3 (.s 0)⟩, ⟨none, .build 4 [.int .i64 0, .bool false, .int .i64 0, .str ⟨#[]⟩, .lst .nil 6 [], .lst .nil 7 []] [(0, 1, .k (.int .i64 2)), (2, 1, .s 3)]⟩, ⟨none, .st 6 (.s 2) (.s 4)⟩]) .ret)
def a_tree_Int : AFn := ⟨1, 5, b_tree_Int, [.cell 2 6 true]⟩
theorem a_tree_Int_ok : fnAF Tryz.prog [] Tryz.f145 = some a_tree_Int := by kernel_rfl
theorem a_tree_Int_cb : callable Tryz.prog 145 = true := by kernel_rfl

/-- mizzen tree.Get -/
def b_tree_Get : ACode :=
  .seq (.reg [⟨none, .box 2 (.s 0)⟩, ⟨none, .alloc 4 [.int .i64 0, .bool false, .int .i64 0, .str ⟨#[]⟩, .lst .nil 6 [], .lst .nil 7 []]⟩, ⟨none, .mov 5 (.k (.bool false))⟩]) (.seq (.seq (.reg [⟨none, .off 8 0 (.s 2)⟩, ⟨none, .ld 9 1 false (.s 8)⟩, ⟨none, .bin 10 .neq false (.s 9) (.k (.int .i64 5))⟩]) (.cond (.s 10) (.seq (.reg [⟨none, .build 11 [.int .i64 0, .bool false, .int .i64 0, .str ⟨#[]⟩, .lst .nil 6 [], .lst .nil 7 []] []⟩, ⟨none, .st 6 (.s 4) (.s 11)⟩, ⟨none, .mov 5 (.k (.bool false))⟩]) .ret) .skip)) (.seq (.reg [⟨none, .off 13 5 (.s 2)⟩, ⟨none, .ld 14 1 false (.s 13)⟩, ⟨none, .mov 15 (.s 1)⟩, ⟨none, .call (some 16) (.k (.fn 118 [])) [.s 14, .s 15, .k (.fn 119 [])]⟩, ⟨none, .mov 12 (.s 16)⟩, ⟨none, .ext 17 0 (.s 12)⟩, ⟨none, .ext 18 1 (.s 12)⟩, ⟨none, .mov 6 (.s 17)⟩, ⟨none, .mov 7 (.s 18)⟩]) (.seq (.seq (.reg [⟨none, .mov 19 (.s 7)⟩, ⟨none, .un 20 .not (.s 19)⟩]) (.cond (.s 20) (.seq (.reg [⟨none, .build 21 [.int .i64 0, .bool false, .int .i64 0, .str ⟨#[]⟩, .lst .nil 6 [], .lst .nil 7 []] []⟩, ⟨none, .st 6 (.s 4) (.s 21)⟩, ⟨none, .mov 5 (.k (.bool false))⟩]) .ret) .skip)) (.seq (.reg [⟨none, .off 22 5 (.s 2)⟩, ⟨none, .ld 23 1 false (.s 22)⟩, ⟨none, .mov 24 (.s 6)⟩, ⟨none, .idx 25 7 (.s 23) (.s 24)⟩, ⟨none, .off 26 1 (.s 25)⟩, ⟨none, .ld 27 6 true (.s 26)⟩, ⟨none, .call (some 28) (.k (.fn 117 [])) [.s 27]⟩, ⟨none, .st 6 (.s 4) (.s 28)⟩, ⟨none, .mov 5 (.k (.bool true))⟩]) .ret))))
def a_tree_Get : AFn := ⟨2, 29, b_tree_Get, [.cell 4 6 true, .tmp 5]⟩
theorem a_tree_Get_ok : fnAF Tryz.prog [] Tryz.f93 = some a_tree_Get := by kernel_rfl
theorem a_tree_Get_cb : callable Tryz.prog 93 = true := by kernel_rfl

/-- mizzen tree.byKey -/
def b_tree_byKey : ACode :=
  .seq (.reg [⟨none, .box 2 (.s 0)⟩, ⟨none, .mov 4 (.k (.int .i64 0))⟩]) (.seq (.reg [⟨none, .off 5 0 (.s 2)⟩, ⟨none, .ld 6 1 false (.s 5)⟩, ⟨none, .mov 7 (.s 1)⟩, ⟨none, .call (some 8) (.k (.fn 137 [])) [.s 6, .s 7]⟩, ⟨none, .mov 4 (.s 8)⟩]) .ret)
def a_tree_byKey : AFn := ⟨2, 9, b_tree_byKey, [.tmp 4]⟩
theorem a_tree_byKey_ok : fnAF Tryz.prog [] Tryz.f119 = some a_tree_byKey := by kernel_rfl
theorem a_tree_byKey_cb : callable Tryz.prog 119 = true := by kernel_rfl

/-- slices.BinarySearchFunc[[]mizzen api.Pair,mizzen api.Pair,string] -/
def b_slices_BinarySearchFunc_string : ACode :=
  .seq (.reg [⟨none, .mov 6 (.k (.int .i64 0))⟩, ⟨none, .mov 7 (.k (.bool false))⟩]) (.seq (.reg [⟨none, .mov 12 (.s 0)⟩, ⟨none, .len 13 false (.s 12)⟩, ⟨none, .mov 8 (.s 13)⟩]) (.seq (.reg [⟨none, .mov 14 (.s 8)⟩, ⟨none, .mov 9 (.k (.int .i64 0))⟩, ⟨none, .mov 10 (.s 14)⟩]) (.seq (.block 0 (.loop (.seq (.seq (.reg [⟨none, .mov 15 (.s 9)⟩, ⟨none, .mov 16 (.s 10)⟩, ⟨none, .bin 17 .lss false (.s 15) (.s 16)⟩]) (.cond (.s 17) .skip (.exit 0))) (.block 1 (.seq (.reg [⟨none, .mov 18 (.s 9)⟩, ⟨none, .mov 19 (.s 10)⟩, ⟨none, .bin 20 .add false (.s 18) (.s 19)⟩, ⟨none, .conv 21 .u64 (.s 20)⟩, ⟨none, .bin 22 .shr false (.s 21) (.k (.int .u64 1))⟩, ⟨none, .conv 23 .i64 (.s 22)⟩, ⟨none, .mov 11 (.s 23)⟩]) (.seq (.reg [⟨none, .mov 24 (.s 2)⟩, ⟨none, .mov 25 (.s 0)⟩, ⟨none, .mov 26 (.s 11)⟩, ⟨none, .idx 27 7 (.s 25) (.s 26)⟩, ⟨none, .ld 28 7 true (.s 27)⟩, ⟨none, .mov 29 (.s 1)⟩, ⟨none, .call (some 30) (.s 24) [.s 28, .s 29]⟩, ⟨none, .bin 31 .lss false (.s 30) (.k (.int .i64 0))⟩]) (.cond (.s 31) (.reg [⟨none, .mov 32 (.s 11)⟩, ⟨none, .bin 33 .add false (.s 32) (.k (.int .i64 1))⟩, ⟨none, .mov 9 (.s 33)⟩]) (.reg [⟨none, .mov 34 (.s 11)⟩, ⟨none, .mov 10 (.s 34)⟩])))))))) (.seq (.reg [⟨none, .mov 35 (.s 9)⟩, ⟨none, .mov 36 (.s 9)⟩, ⟨none, .mov 37 (.s 8)⟩, ⟨none, .bin 38 .lss false (.s 36) (.s 37)⟩, ⟨none, .mov 39 (.s 38)⟩, ⟨some (39, true), .mov 40 (.s 2)⟩, ⟨some (39, true), .mov 41 (.s 0)⟩, ⟨some (39, true), .mov 42 (.s 9)⟩, ⟨some (39, true), .idx 43 7 (.s 41) (.s 42)⟩, ⟨some (39, true), .ld 44 7 true (.s 43)⟩, ⟨some (39, true), .mov 45 (.s 1)⟩, ⟨some (39, true), .call (some 46) (.s 40) [.s 44, .s 45]⟩, ⟨some (39, true), .bin 47 .eql false (.s 46) (.k (.int .i64 0))⟩, ⟨none, .pick 48 (.s 39) (.s 47) (.k (.bool false))⟩, ⟨none, .mov 6 (.s 35)⟩, ⟨none, .mov 7 (.s 48)⟩]) .ret))))
def a_slices_BinarySearchFunc_string : AFn := ⟨3, 49, b_slices_BinarySearchFunc_string, [.tmp 6, .tmp 7]⟩
theorem a_slices_BinarySearchFunc_string_ok : fnAF Tryz.prog [] Tryz.f118 = some a_slices_BinarySearchFunc_string := by kernel_rfl
theorem a_slices_BinarySearchFunc_string_cb : callable Tryz.prog 118 = true := by kernel_rfl

/-- strings.Compare -/
def b_strings_Compare : ACode :=
  .seq (.reg [⟨none, .mov 4 (.k (.int .i64 0))⟩]) (.seq (.reg [⟨none, .mov 5 (.s 0)⟩, ⟨none, .mov 6 (.s 1)⟩, ⟨none, .call (some 7) (.k (.fn 153 [])) [.s 5, .s 6]⟩, ⟨none, .mov 4 (.s 7)⟩]) .ret)
def a_strings_Compare : AFn := ⟨2, 8, b_strings_Compare, [.tmp 4]⟩
theorem a_strings_Compare_ok : fnAF Tryz.prog [] Tryz.f137 = some a_strings_Compare := by kernel_rfl
theorem a_strings_Compare_cb : callable Tryz.prog 137 = true := by kernel_rfl
end Go.Proofs.YtgekcnpfflhpkaaGreatDoor
