/-
  Functions of the program as instructions.
-/
import Derived.Test.YtgekcnpfflhpkaaGreatDoorChecked
import Derived.Test.YtgekcnpfflhpkaaGreatDoorAF
import Derived.KernelRfl
namespace Go.Proofs.YtgekcnpfflhpkaaGreatDoor
set_option maxRecDepth 100000

/-- mizzen tree.Clone -/
def b_tree_Clone : ACode :=
  .seq (.reg [⟨none, .box 1 (.s 0)⟩, ⟨none, .alloc 2 [.int .i64 0, .bool false, .int .i64 0, .str ⟨#[]⟩, .lst .nil 6 [], .lst .nil 7 []]⟩]) (.seq (.reg [⟨none, .off 5 4 (.s 1)⟩, ⟨none, .ld 6 1 false (.s 5)⟩, ⟨none, .call (some 7) (.k (.fn 136 [])) [.s 6]⟩, ⟨none, .off 8 5 (.s 1)⟩, ⟨none, .ld 9 1 false (.s 8)⟩, ⟨none, .call (some 10) (.k (.fn 121 [])) [.s 9]⟩, ⟨none, .off 11 4 (.s 1)⟩, ⟨none, .st 1 (.s 11) (.s 7)⟩, ⟨none, .off 12 5 (.s 1)⟩, ⟨none, .st 1 (.s 12) (.s 10)⟩]) (.seq (.seq (.reg [⟨none, .off 13 4 (.s 1)⟩, ⟨none, .ld 14 1 false (.s 13)⟩, ⟨none, .len 15 false (.s 14)⟩, ⟨none, .mov 16 (.k (.int .i64 0))⟩]) (.block 0 (.loop (.seq (.reg [⟨none, .bin 17 .lss false (.s 16) (.s 15)⟩]) (.seq (.cond (.s 17) .skip (.exit 0)) (.seq (.block 1 (.seq (.reg [⟨none, .mov 18 (.s 16)⟩, ⟨none, .mov 3 (.s 18)⟩]) (.reg [⟨none, .off 19 4 (.s 1)⟩, ⟨none, .ld 20 1 false (.s 19)⟩, ⟨none, .mov 21 (.s 3)⟩, ⟨none, .off 22 4 (.s 1)⟩, ⟨none, .ld 23 1 false (.s 22)⟩, ⟨none, .mov 24 (.s 3)⟩, ⟨none, .idx 25 6 (.s 23) (.s 24)⟩, ⟨none, .ld 26 6 true (.s 25)⟩, ⟨none, .call (some 27) (.k (.fn 117 [])) [.s 26]⟩, ⟨none, .idx 28 6 (.s 20) (.s 21)⟩, ⟨none, .st 6 (.s 28) (.s 27)⟩]))) (.reg [⟨none, .bin 29 .add false (.s 16) (.k (.int .i64 1))⟩, ⟨none, .mov 16 (.s 29)⟩]))))))) (.seq (.seq (.reg [⟨none, .off 30 5 (.s 1)⟩, ⟨none, .ld 31 1 false (.s 30)⟩, ⟨none, .len 32 false (.s 31)⟩, ⟨none, .mov 33 (.k (.int .i64 0))⟩]) (.block 2 (.loop (.seq (.reg [⟨none, .bin 34 .lss false (.s 33) (.s 32)⟩]) (.seq (.cond (.s 34) .skip (.exit 2)) (.seq (.block 3 (.seq (.reg [⟨none, .mov 35 (.s 33)⟩, ⟨none, .mov 4 (.s 35)⟩]) (.reg [⟨none, .off 36 5 (.s 1)⟩, ⟨none, .ld 37 1 false (.s 36)⟩, ⟨none, .mov 38 (.s 4)⟩, ⟨none, .off 39 5 (.s 1)⟩, ⟨none, .ld 40 1 false (.s 39)⟩, ⟨none, .mov 41 (.s 4)⟩, ⟨none, .idx 42 7 (.s 40) (.s 41)⟩, ⟨none, .off 43 1 (.s 42)⟩, ⟨none, .ld 44 6 true (.s 43)⟩, ⟨none, .call (some 45) (.k (.fn 117 [])) [.s 44]⟩, ⟨none, .idx 46 7 (.s 37) (.s 38)⟩, ⟨none, .off 47 1 (.s 46)⟩, ⟨none, .st 6 (.s 47) (.s 45)⟩]))) (.reg [⟨none, .bin 48 .add false (.s 33) (.k (.int .i64 1))⟩, ⟨none, .mov 33 (.s 48)⟩]))))))) (.seq (.reg [⟨none, .ld 49 6 true (.s 1)⟩, ⟨none, .st 6 (.s 2) (.s 49)⟩]) .ret))))
def a_tree_Clone : AFn := ⟨1, 50, b_tree_Clone, [.cell 2 6 true]⟩
theorem a_tree_Clone_ok : fnAF Tryz.prog [120, 118] Tryz.f117 = some a_tree_Clone := by kernel_rfl
theorem a_tree_Clone_cb : callable Tryz.prog 117 = true := by kernel_rfl

/-- mizzen tree.Map -/
def b_tree_Map : ACode :=
  .seq (.reg [⟨none, .alloc 2 [.int .i64 0, .bool false, .int .i64 0, .str ⟨#[]⟩, .lst .nil 6 [], .lst .nil 7 []]⟩]) (.seq (.reg [⟨none, .build 8 [.int .i64 0, .bool false, .int .i64 0, .str ⟨#[]⟩, .lst .nil 6 [], .lst .nil 7 []] [(0, 1, .k (.int .i64 5))]⟩, ⟨none, .alloc 3 [.int .i64 0, .bool false, .int .i64 0, .str ⟨#[]⟩, .lst .nil 6 [], .lst .nil 7 []]⟩, ⟨none, .st 6 (.s 3) (.s 8)⟩]) (.seq (.seq (.reg [⟨none, .mov 9 (.s 0)⟩, ⟨none, .len 10 false (.s 9)⟩, ⟨none, .mov 11 (.k (.int .i64 0))⟩]) (.block 0 (.loop (.seq (.reg [⟨none, .bin 12 .lss false (.s 11) (.s 10)⟩]) (.seq (.cond (.s 12) .skip (.exit 0)) (.seq (.block 1 (.seq (.reg [⟨none, .idx 13 7 (.s 9) (.s 11)⟩, ⟨none, .ld 14 7 true (.s 13)⟩, ⟨none, .alloc 5 [.str ⟨#[]⟩, .int .i64 0, .bool false, .int .i64 0, .str ⟨#[]⟩, .lst .nil 6 [], .lst .nil 7 []]⟩, ⟨none, .st 7 (.s 5) (.s 14)⟩]) (.seq (.reg [⟨none, .off 16 5 (.s 3)⟩, ⟨none, .ld 17 1 false (.s 16)⟩, ⟨none, .off 18 0 (.s 5)⟩, ⟨none, .ld 19 1 false (.s 18)⟩, ⟨none, .callr (some 20) (.k (.fn 118 [])) [.s 17, .s 19, .k (.fn 119 [])]⟩, ⟨none, .mov 15 (.s 20)⟩, ⟨none, .ext 21 0 (.s 15)⟩, ⟨none, .ext 22 1 (.s 15)⟩, ⟨none, .mov 6 (.s 21)⟩, ⟨none, .mov 7 (.s 22)⟩]) (.seq (.seq (.reg [⟨none, .mov 23 (.s 7)⟩]) (.cond (.s 23) (.seq (.reg [⟨none, .off 24 5 (.s 3)⟩, ⟨none, .ld 25 1 false (.s 24)⟩, ⟨none, .mov 26 (.s 6)⟩, ⟨none, .off 27 1 (.s 5)⟩, ⟨none, .ld 28 6 true (.s 27)⟩, ⟨none, .call (some 29) (.k (.fn 117 [])) [.s 28]⟩, ⟨none, .idx 30 7 (.s 25) (.s 26)⟩, ⟨none, .off 31 1 (.s 30)⟩, ⟨none, .st 6 (.s 31) (.s 29)⟩]) (.exit 1)) .skip)) (.reg [⟨none, .off 32 5 (.s 3)⟩, ⟨none, .ld 33 1 false (.s 32)⟩, ⟨none, .mov 34 (.s 6)⟩, ⟨none, .off 35 0 (.s 5)⟩, ⟨none, .ld 36 1 false (.s 35)⟩, ⟨none, .off 37 1 (.s 5)⟩, ⟨none, .ld 38 6 true (.s 37)⟩, ⟨none, .call (some 39) (.k (.fn 117 [])) [.s 38]⟩, ⟨none, .build 40 [.str ⟨#[]⟩, .int .i64 0, .bool false, .int .i64 0, .str ⟨#[]⟩, .lst .nil 6 [], .lst .nil 7 []] [(0, 1, .s 36), (1, 6, .s 39)]⟩, ⟨none, .bsl 41 1 7 [.str ⟨#[]⟩, .int .i64 0, .bool false, .int .i64 0, .str ⟨#[]⟩, .lst .nil 6 [], .lst .nil 7 []] [(0, 7, .s 40)]⟩, ⟨none, .callr (some 42) (.k (.fn 120 [])) [.s 33, .s 34, .s 41]⟩, ⟨none, .off 43 5 (.s 3)⟩, ⟨none, .st 1 (.s 43) (.s 42)⟩]))))) (.reg [⟨none, .bin 44 .add false (.s 11) (.k (.int .i64 1))⟩, ⟨none, .mov 11 (.s 44)⟩]))))))) (.seq (.reg [⟨none, .ld 45 6 true (.s 3)⟩, ⟨none, .st 6 (.s 2) (.s 45)⟩]) .ret)))
def a_tree_Map : AFn := ⟨1, 46, b_tree_Map, [.cell 2 6 true]⟩
theorem a_tree_Map_ok : fnAF Tryz.prog [120, 118] Tryz.f92 = some a_tree_Map := by kernel_rfl
theorem a_tree_Map_cb : callable Tryz.prog 92 = true := by kernel_rfl

/-- slices.Clone[[]mizzen api.Value,mizzen api.Value] -/
def b_slices_Clone_Value : ACode :=
  .seq (.reg [⟨none, .mov 2 (.k (.lst .nil 6 []))⟩]) (.seq (.seq (.reg [⟨none, .mov 3 (.s 0)⟩, ⟨none, .bin 4 .eql false (.s 3) (.k (.lst .nil 6 []))⟩]) (.cond (.s 4) (.seq (.reg [⟨none, .mov 2 (.k (.lst .nil 6 []))⟩]) .ret) .skip)) (.seq (.reg [⟨none, .bsl 5 0 6 [] []⟩, ⟨none, .mov 6 (.s 0)⟩, ⟨none, .app 7 6 88 (.s 5) (.s 6)⟩, ⟨none, .mov 2 (.s 7)⟩]) .ret))
def a_slices_Clone_Value : AFn := ⟨1, 8, b_slices_Clone_Value, [.tmp 2]⟩
theorem a_slices_Clone_Value_ok : fnAF Tryz.prog [120, 118] Tryz.f136 = some a_slices_Clone_Value := by kernel_rfl
theorem a_slices_Clone_Value_cb : callable Tryz.prog 136 = true := by kernel_rfl

/-- slices.Clone[[]mizzen api.Pair,mizzen api.Pair] -/
def b_slices_Clone_Pair : ACode :=
  .seq (.reg [⟨none, .mov 2 (.k (.lst .nil 7 []))⟩]) (.seq (.seq (.reg [⟨none, .mov 3 (.s 0)⟩, ⟨none, .bin 4 .eql false (.s 3) (.k (.lst .nil 7 []))⟩]) (.cond (.s 4) (.seq (.reg [⟨none, .mov 2 (.k (.lst .nil 7 []))⟩]) .ret) .skip)) (.seq (.reg [⟨none, .bsl 5 0 7 [] []⟩, ⟨none, .mov 6 (.s 0)⟩, ⟨none, .app 7 7 104 (.s 5) (.s 6)⟩, ⟨none, .mov 2 (.s 7)⟩]) .ret))
def a_slices_Clone_Pair : AFn := ⟨1, 8, b_slices_Clone_Pair, [.tmp 2]⟩
theorem a_slices_Clone_Pair_ok : fnAF Tryz.prog [120, 118] Tryz.f121 = some a_slices_Clone_Pair := by kernel_rfl
theorem a_slices_Clone_Pair_cb : callable Tryz.prog 121 = true := by kernel_rfl
end Go.Proofs.YtgekcnpfflhpkaaGreatDoor
