/-
  Functions of the program as instructions.
-/
import Derived.Test.YtgekcnpfflhpkaaGreatDoorChecked
import Derived.Test.YtgekcnpfflhpkaaGreatDoorAF
import Derived.KernelRfl
namespace Go.Proofs.YtgekcnpfflhpkaaGreatDoor
set_option maxRecDepth 100000

/-- mizzen tree.Put -/
def b_tree_Put : ACode :=
  .seq (.reg [⟨none, .box 3 (.s 0)⟩, ⟨none, .box 5 (.s 2)⟩, ⟨none, .alloc 6 [.int .i64 0, .bool false, .int .i64 0, .str ⟨#[]⟩, .lst .nil 6 [], .lst .nil 7 []]⟩]) (.seq (.seq (.reg [⟨none, .off 7 0 (.s 3)⟩, ⟨none, .ld 8 1 false (.s 7)⟩, ⟨none, .bin 9 .neq false (.s 8) (.k (.int .i64 5))⟩]) (.cond (.s 9) (.reg [⟨none, .build 10 [.int .i64 0, .bool false, .int .i64 0, .str ⟨#[]⟩, .lst .nil 6 [], .lst .nil 7 []] []⟩, ⟨none, .st 6 (.s 3) (.s 10)⟩]) .skip)) (.seq (.reg [⟨none, .off 11 5 (.s 3)⟩, ⟨none, .ld 12 1 false (.s 11)⟩, ⟨none, .callo (some 13) (.k (.fn 121 [])) [.s 12]⟩, ⟨none, .mov 14 (.s 1)⟩, ⟨none, .ld 15 6 true (.s 5)⟩, ⟨none, .build 16 [.str ⟨#[]⟩, .int .i64 0, .bool false, .int .i64 0, .str ⟨#[]⟩, .lst .nil 6 [], .lst .nil 7 []] [(0, 1, .s 14), (1, 6, .s 15)]⟩, ⟨none, .bsl 17 1 7 [.str ⟨#[]⟩, .int .i64 0, .bool false, .int .i64 0, .str ⟨#[]⟩, .lst .nil 6 [], .lst .nil 7 []] [(0, 7, .s 16)]⟩, ⟨none, .app 18 7 104 (.s 13) (.s 17)⟩, ⟨none, .call (some 19) (.k (.fn 92 [])) [.s 18]⟩, ⟨none, .st 6 (.s 6) (.s 19)⟩]) .ret))
def a_tree_Put : AFn := ⟨3, 20, b_tree_Put, [.cell 6 6 true]⟩
theorem a_tree_Put_ok : fnAF Tryz.prog [1000121] Tryz.f94 = some a_tree_Put := by kernel_rfl
theorem a_tree_Put_cb : callable Tryz.prog 94 = true := by kernel_rfl
end Go.Proofs.YtgekcnpfflhpkaaGreatDoor
