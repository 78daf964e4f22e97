/-
  Functions of the program as instructions.
-/
import Derived.Test.YtgekcnpfflhpkaaGreatDoorChecked
import Derived.Test.YtgekcnpfflhpkaaGreatDoorAF
import Derived.KernelRfl
namespace Go.Proofs.YtgekcnpfflhpkaaGreatDoor
set_option maxRecDepth 100000

/-- mizzen mizzenref04.Digits -/
def b_ref04_Digits : ACode :=
  .seq (.reg [⟨none, .mov 2 (.k (.str ⟨#[]⟩))⟩]) (.seq (.reg [⟨none, .mov 3 (.k (.str ⟨#[]⟩))⟩]) (.seq (.reg [⟨none, .mov 6 (.s 0)⟩, ⟨none, .bin 7 .lss false (.s 6) (.k (.int .i64 0))⟩, ⟨none, .mov 4 (.s 7)⟩]) (.seq (.block 0 (.loop (.block 1 (.seq (.reg [⟨none, .mov 8 (.s 0)⟩, ⟨none, .bin 9 .rem false (.s 8) (.k (.int .i64 10))⟩, ⟨none, .mov 5 (.s 9)⟩]) (.seq (.seq (.reg [⟨none, .mov 10 (.s 5)⟩, ⟨none, .bin 11 .lss false (.s 10) (.k (.int .i64 0))⟩]) (.cond (.s 11) (.reg [⟨none, .mov 12 (.s 5)⟩, ⟨none, .un 13 .neg (.s 12)⟩, ⟨none, .mov 5 (.s 13)⟩]) .skip)) (.seq (.reg [⟨none, .mov 14 (.s 5)⟩, ⟨none, .bin 15 .add false (.k (.int .i64 48)) (.s 14)⟩, ⟨none, .conv 16 .u8 (.s 15)⟩, ⟨none, .bsl 17 1 1 [.int .u8 0] [(0, 1, .s 16)]⟩, ⟨none, .b2s 18 (.s 17)⟩, ⟨none, .mov 19 (.s 3)⟩, ⟨none, .bin 20 .add false (.s 18) (.s 19)⟩, ⟨none, .mov 3 (.s 20)⟩]) (.seq (.reg [⟨none, .mov 21 (.s 0)⟩, ⟨none, .bin 22 .quo false (.s 21) (.k (.int .i64 10))⟩, ⟨none, .mov 0 (.s 22)⟩]) (.seq (.reg [⟨none, .mov 23 (.s 0)⟩, ⟨none, .bin 24 .eql false (.s 23) (.k (.int .i64 0))⟩]) (.cond (.s 24) (.exit 0) .skip))))))))) (.seq (.seq (.reg [⟨none, .mov 25 (.s 4)⟩]) (.cond (.s 25) (.seq (.reg [⟨none, .mov 26 (.s 3)⟩, ⟨none, .bin 27 .add false (.k (.str ⟨#[45]⟩)) (.s 26)⟩, ⟨none, .mov 2 (.s 27)⟩]) .ret) .skip)) (.seq (.reg [⟨none, .mov 28 (.s 3)⟩, ⟨none, .mov 2 (.s 28)⟩]) .ret)))))
def a_ref04_Digits : AFn := ⟨1, 29, b_ref04_Digits, [.tmp 2]⟩
theorem a_ref04_Digits_ok : fnAF Tryz.prog [] Tryz.f10 = some a_ref04_Digits := by kernel_rfl
theorem a_ref04_Digits_cb : callable Tryz.prog 10 = true := by kernel_rfl
end Go.Proofs.YtgekcnpfflhpkaaGreatDoor
