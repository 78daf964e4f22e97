/-
  Functions of the program as instructions.
-/
import Derived.Test.YtfnpjakekeojoaaGreatDoorChecked
import Derived.Test.YtfnpjakekeojoaaGreatDoorAF
import Derived.KernelRfl
namespace Go.Proofs.YtfnpjakekeojoaaGreatDoor
set_option maxRecDepth 100000

/-- mizzen mizzenref04.Quote -/
def b_ref04_Quote : ACode :=
  .seq (.reg [⟨none, .mov 2 (.k (.str ⟨#[]⟩))⟩]) (.seq (.reg [⟨none, .mov 3 (.k (.str ⟨#[34]⟩))⟩]) (.seq (.seq (.reg [⟨none, .mov 4 (.k (.int .i64 0))⟩]) (.block 0 (.loop (.seq (.seq (.reg [⟨none, .mov 5 (.s 4)⟩, ⟨none, .mov 6 (.s 0)⟩, ⟨none, .len 7 true (.s 6)⟩, ⟨none, .bin 8 .lss false (.s 5) (.s 7)⟩]) (.cond (.s 8) .skip (.exit 0))) (.seq (.block 1 (.seq (.reg [⟨none, .mov 11 (.s 0)⟩, ⟨none, .mov 12 (.s 4)⟩, ⟨none, .bidx 13 (.s 11) (.s 12)⟩]) (.block 2 (.seq (.reg [⟨none, .bin 22 .eql false (.s 13) (.k (.int .u8 10))⟩, ⟨none, .mov 21 (.s 22)⟩]) (.cond (.s 21) (.reg [⟨none, .mov 23 (.s 3)⟩, ⟨none, .bin 24 .add false (.s 23) (.k (.str ⟨#[92, 110]⟩))⟩, ⟨none, .mov 3 (.s 24)⟩]) (.seq (.reg [⟨none, .bin 26 .eql false (.s 13) (.k (.int .u8 9))⟩, ⟨none, .mov 25 (.s 26)⟩]) (.cond (.s 25) (.reg [⟨none, .mov 27 (.s 3)⟩, ⟨none, .bin 28 .add false (.s 27) (.k (.str ⟨#[92, 116]⟩))⟩, ⟨none, .mov 3 (.s 28)⟩]) (.seq (.seq (.reg [⟨none, .bin 30 .eql false (.s 13) (.k (.int .u8 34))⟩, ⟨none, .mov 29 (.s 30)⟩]) (.cond (.s 29) .skip (.reg [⟨none, .bin 31 .eql false (.s 13) (.k (.int .u8 92))⟩, ⟨none, .mov 29 (.s 31)⟩]))) (.cond (.s 29) (.reg [⟨none, .mov 32 (.s 3)⟩, ⟨none, .bin 33 .add false (.s 32) (.k (.str ⟨#[92]⟩))⟩, ⟨none, .mov 34 (.s 0)⟩, ⟨none, .mov 35 (.s 4)⟩, ⟨none, .mov 36 (.s 4)⟩, ⟨none, .bin 37 .add false (.s 36) (.k (.int .i64 1))⟩, ⟨none, .sub 38 true 0 (.s 34) (some (.s 35)) (some (.s 37))⟩, ⟨none, .bin 39 .add false (.s 33) (.s 38)⟩, ⟨none, .mov 3 (.s 39)⟩]) (.reg [⟨none, .mov 14 (.s 3)⟩, ⟨none, .mov 15 (.s 0)⟩, ⟨none, .mov 16 (.s 4)⟩, ⟨none, .mov 17 (.s 4)⟩, ⟨none, .bin 18 .add false (.s 17) (.k (.int .i64 1))⟩, ⟨none, .sub 19 true 0 (.s 15) (some (.s 16)) (some (.s 18))⟩, ⟨none, .bin 20 .add false (.s 14) (.s 19)⟩, ⟨none, .mov 3 (.s 20)⟩])))))))))) (.reg [⟨none, .mov 9 (.s 4)⟩, ⟨none, .bin 10 .add false (.s 9) (.k (.int .i64 1))⟩, ⟨none, .mov 4 (.s 10)⟩])))))) (.seq (.reg [⟨none, .mov 40 (.s 3)⟩, ⟨none, .bin 41 .add false (.s 40) (.k (.str ⟨#[34]⟩))⟩, ⟨none, .mov 2 (.s 41)⟩]) .ret)))
def a_ref04_Quote : AFn := ⟨1, 42, b_ref04_Quote, [.tmp 2]⟩
theorem a_ref04_Quote_ok : fnAF Tryz.prog [] Tryz.f16 = some a_ref04_Quote := by kernel_rfl
theorem a_ref04_Quote_cb : callable Tryz.prog 16 = true := by kernel_rfl
end Go.Proofs.YtfnpjakekeojoaaGreatDoor
