/-
  Functions of the program as instructions.
-/
import Derived.Test.YtgekcnpfflhpkaaGreatDoorChecked
import Derived.Test.YtgekcnpfflhpkaaGreatDoorAF
import Derived.KernelRfl
namespace Go.Proofs.YtgekcnpfflhpkaaGreatDoor
set_option maxRecDepth 100000

/-- mizzen mizzenref04.Bare -/
def b_ref04_Bare : ACode :=
  .seq (.reg [⟨none, .mov 2 (.k (.bool false))⟩]) (.seq (.seq (.reg [⟨none, .mov 7 (.s 0)⟩, ⟨none, .len 8 true (.s 7)⟩, ⟨none, .bin 9 .eql false (.s 8) (.k (.int .i64 0))⟩, ⟨none, .mov 10 (.s 9)⟩, ⟨some (10, false), .mov 11 (.s 0)⟩, ⟨some (10, false), .bin 12 .eql false (.s 11) (.k (.str ⟨#[110, 117, 108, 108]⟩))⟩, ⟨none, .pick 13 (.s 10) (.k (.bool true)) (.s 12)⟩, ⟨none, .mov 14 (.s 13)⟩, ⟨some (14, false), .mov 15 (.s 0)⟩, ⟨some (14, false), .bin 16 .eql false (.s 15) (.k (.str ⟨#[116, 114, 117, 101]⟩))⟩, ⟨none, .pick 17 (.s 14) (.k (.bool true)) (.s 16)⟩, ⟨none, .mov 18 (.s 17)⟩, ⟨some (18, false), .mov 19 (.s 0)⟩, ⟨some (18, false), .bin 20 .eql false (.s 19) (.k (.str ⟨#[102, 97, 108, 115, 101]⟩))⟩, ⟨none, .pick 21 (.s 18) (.k (.bool true)) (.s 20)⟩]) (.cond (.s 21) (.seq (.reg [⟨none, .mov 2 (.k (.bool false))⟩]) .ret) .skip)) (.seq (.seq (.reg [⟨none, .mov 3 (.k (.int .i64 0))⟩]) (.block 0 (.loop (.seq (.seq (.reg [⟨none, .mov 22 (.s 3)⟩, ⟨none, .mov 23 (.s 0)⟩, ⟨none, .len 24 true (.s 23)⟩, ⟨none, .bin 25 .lss false (.s 22) (.s 24)⟩]) (.cond (.s 25) .skip (.exit 0))) (.seq (.block 1 (.seq (.reg [⟨none, .mov 28 (.s 0)⟩, ⟨none, .mov 29 (.s 3)⟩, ⟨none, .bidx 30 (.s 28) (.s 29)⟩, ⟨none, .mov 4 (.s 30)⟩]) (.seq (.reg [⟨none, .mov 31 (.s 4)⟩, ⟨none, .bin 32 .geq false (.s 31) (.k (.int .u8 65))⟩, ⟨none, .mov 33 (.s 32)⟩, ⟨some (33, true), .mov 34 (.s 4)⟩, ⟨some (33, true), .bin 35 .leq false (.s 34) (.k (.int .u8 90))⟩, ⟨none, .pick 36 (.s 33) (.s 35) (.k (.bool false))⟩, ⟨none, .mov 37 (.s 36)⟩, ⟨some (37, false), .mov 38 (.s 4)⟩, ⟨some (37, false), .bin 39 .geq false (.s 38) (.k (.int .u8 97))⟩, ⟨some (37, false), .mov 40 (.s 39)⟩, ⟨some (40, true), .mov 41 (.s 4)⟩, ⟨some (40, true), .bin 42 .leq false (.s 41) (.k (.int .u8 122))⟩, ⟨some (37, false), .pick 43 (.s 40) (.s 42) (.k (.bool false))⟩, ⟨none, .pick 44 (.s 37) (.k (.bool true)) (.s 43)⟩, ⟨none, .mov 5 (.s 44)⟩]) (.seq (.reg [⟨none, .mov 45 (.s 4)⟩, ⟨none, .bin 46 .geq false (.s 45) (.k (.int .u8 48))⟩, ⟨none, .mov 47 (.s 46)⟩, ⟨some (47, true), .mov 48 (.s 4)⟩, ⟨some (47, true), .bin 49 .leq false (.s 48) (.k (.int .u8 57))⟩, ⟨none, .pick 50 (.s 47) (.s 49) (.k (.bool false))⟩, ⟨none, .mov 51 (.s 50)⟩, ⟨some (51, false), .mov 52 (.s 4)⟩, ⟨some (51, false), .bin 53 .eql false (.s 52) (.k (.int .u8 95))⟩, ⟨none, .pick 54 (.s 51) (.k (.bool true)) (.s 53)⟩, ⟨none, .mov 55 (.s 54)⟩, ⟨some (55, false), .mov 56 (.s 4)⟩, ⟨some (55, false), .bin 57 .eql false (.s 56) (.k (.int .u8 45))⟩, ⟨none, .pick 58 (.s 55) (.k (.bool true)) (.s 57)⟩, ⟨none, .mov 59 (.s 58)⟩, ⟨some (59, false), .mov 60 (.s 4)⟩, ⟨some (59, false), .bin 61 .eql false (.s 60) (.k (.int .u8 46))⟩, ⟨none, .pick 62 (.s 59) (.k (.bool true)) (.s 61)⟩, ⟨none, .mov 63 (.s 62)⟩, ⟨some (63, false), .mov 64 (.s 4)⟩, ⟨some (63, false), .bin 65 .eql false (.s 64) (.k (.int .u8 47))⟩, ⟨none, .pick 66 (.s 63) (.k (.bool true)) (.s 65)⟩, ⟨none, .mov 6 (.s 66)⟩]) (.seq (.reg [⟨none, .mov 67 (.s 5)⟩, ⟨none, .un 68 .not (.s 67)⟩, ⟨none, .mov 69 (.s 68)⟩, ⟨some (69, true), .mov 70 (.s 3)⟩, ⟨some (69, true), .bin 71 .eql false (.s 70) (.k (.int .i64 0))⟩, ⟨some (69, true), .mov 72 (.s 71)⟩, ⟨some (72, false), .mov 73 (.s 6)⟩, ⟨some (72, false), .un 74 .not (.s 73)⟩, ⟨some (69, true), .pick 75 (.s 72) (.k (.bool true)) (.s 74)⟩, ⟨none, .pick 76 (.s 69) (.s 75) (.k (.bool false))⟩]) (.cond (.s 76) (.seq (.reg [⟨none, .mov 2 (.k (.bool false))⟩]) .ret) .skip)))))) (.reg [⟨none, .mov 26 (.s 3)⟩, ⟨none, .bin 27 .add false (.s 26) (.k (.int .i64 1))⟩, ⟨none, .mov 3 (.s 27)⟩])))))) (.seq (.reg [⟨none, .mov 2 (.k (.bool true))⟩]) .ret)))
def a_ref04_Bare : AFn := ⟨1, 77, b_ref04_Bare, [.tmp 2]⟩
theorem a_ref04_Bare_ok : fnAF Tryz.prog [] Tryz.f60 = some a_ref04_Bare := by kernel_rfl
theorem a_ref04_Bare_cb : callable Tryz.prog 60 = true := by kernel_rfl

/-- mizzen mizzenref04.Quote -/
def b_ref04_Quote : ACode :=
  .seq (.reg [⟨none, .mov 2 (.k (.str ⟨#[]⟩))⟩]) (.seq (.reg [⟨none, .mov 3 (.k (.str ⟨#[34]⟩))⟩]) (.seq (.seq (.reg [⟨none, .mov 4 (.k (.int .i64 0))⟩]) (.block 0 (.loop (.seq (.seq (.reg [⟨none, .mov 5 (.s 4)⟩, ⟨none, .mov 6 (.s 0)⟩, ⟨none, .len 7 true (.s 6)⟩, ⟨none, .bin 8 .lss false (.s 5) (.s 7)⟩]) (.cond (.s 8) .skip (.exit 0))) (.seq (.block 1 (.seq (.reg [⟨none, .mov 11 (.s 0)⟩, ⟨none, .mov 12 (.s 4)⟩, ⟨none, .bidx 13 (.s 11) (.s 12)⟩]) (.block 2 (.seq (.reg [⟨none, .bin 22 .eql false (.s 13) (.k (.int .u8 10))⟩, ⟨none, .mov 21 (.s 22)⟩]) (.cond (.s 21) (.reg [⟨none, .mov 23 (.s 3)⟩, ⟨none, .bin 24 .add false (.s 23) (.k (.str ⟨#[92, 110]⟩))⟩, ⟨none, .mov 3 (.s 24)⟩]) (.seq (.reg [⟨none, .bin 26 .eql false (.s 13) (.k (.int .u8 9))⟩, ⟨none, .mov 25 (.s 26)⟩]) (.cond (.s 25) (.reg [⟨none, .mov 27 (.s 3)⟩, ⟨none, .bin 28 .add false (.s 27) (.k (.str ⟨#[92, 116]⟩))⟩, ⟨none, .mov 3 (.s 28)⟩]) (.seq (.seq (.reg [⟨none, .bin 30 .eql false (.s 13) (.k (.int .u8 34))⟩, ⟨none, .mov 29 (.s 30)⟩]) (.cond (.s 29) .skip (.reg [⟨none, .bin 31 .eql false (.s 13) (.k (.int .u8 92))⟩, ⟨none, .mov 29 (.s 31)⟩]))) (.cond (.s 29) (.reg [⟨none, .mov 32 (.s 3)⟩, ⟨none, .bin 33 .add false (.s 32) (.k (.str ⟨#[92]⟩))⟩, ⟨none, .mov 34 (.s 0)⟩, ⟨none, .mov 35 (.s 4)⟩, ⟨none, .mov 36 (.s 4)⟩, ⟨none, .bin 37 .add false (.s 36) (.k (.int .i64 1))⟩, ⟨none, .sub 38 true 0 (.s 34) (some (.s 35)) (some (.s 37))⟩, ⟨none, .bin 39 .add false (.s 33) (.s 38)⟩, ⟨none, .mov 3 (.s 39)⟩]) (.reg [⟨none, .mov 14 (.s 3)⟩, ⟨none, .mov 15 (.s 0)⟩, ⟨none, .mov 16 (.s 4)⟩, ⟨none, .mov 17 (.s 4)⟩, ⟨none, .bin 18 .add false (.s 17) (.k (.int .i64 1))⟩, ⟨none, .sub 19 true 0 (.s 15) (some (.s 16)) (some (.s 18))⟩, ⟨none, .bin 20 .add false (.s 14) (.s 19)⟩, ⟨none, .mov 3 (.s 20)⟩])))))))))) (.reg [⟨none, .mov 9 (.s 4)⟩, ⟨none, .bin 10 .add false (.s 9) (.k (.int .i64 1))⟩, ⟨none, .mov 4 (.s 10)⟩])))))) (.seq (.reg [⟨none, .mov 40 (.s 3)⟩, ⟨none, .bin 41 .add false (.s 40) (.k (.str ⟨#[34]⟩))⟩, ⟨none, .mov 2 (.s 41)⟩]) .ret)))
def a_ref04_Quote : AFn := ⟨1, 42, b_ref04_Quote, [.tmp 2]⟩
theorem a_ref04_Quote_ok : fnAF Tryz.prog [] Tryz.f61 = some a_ref04_Quote := by kernel_rfl
theorem a_ref04_Quote_cb : callable Tryz.prog 61 = true := by kernel_rfl

/-- mizzen mizzenref04.Print -/
def b_ref04_Print : ACode :=
  .seq (.reg [⟨none, .box 1 (.s 0)⟩, ⟨none, .mov 2 (.k (.str ⟨#[]⟩))⟩]) (.seq (.seq (.reg [⟨none, .off 3 0 (.s 1)⟩, ⟨none, .ld 4 1 false (.s 3)⟩]) (.block 0 (.seq (.reg [⟨none, .bin 6 .eql false (.s 4) (.k (.int .i64 1))⟩, ⟨none, .mov 5 (.s 6)⟩]) (.cond (.s 5) (.seq (.seq (.reg [⟨none, .off 7 1 (.s 1)⟩, ⟨none, .ld 8 1 false (.s 7)⟩]) (.cond (.s 8) (.seq (.reg [⟨none, .mov 2 (.k (.str ⟨#[116, 114, 117, 101]⟩))⟩]) .ret) .skip)) (.seq (.reg [⟨none, .mov 2 (.k (.str ⟨#[102, 97, 108, 115, 101]⟩))⟩]) .ret)) (.seq (.reg [⟨none, .bin 10 .eql false (.s 4) (.k (.int .i64 2))⟩, ⟨none, .mov 9 (.s 10)⟩]) (.cond (.s 9) (.seq (.reg [⟨none, .off 11 2 (.s 1)⟩, ⟨none, .ld 12 1 false (.s 11)⟩, ⟨none, .call (some 13) (.k (.fn 10 [])) [.s 12]⟩, ⟨none, .mov 2 (.s 13)⟩]) .ret) (.seq (.reg [⟨none, .bin 15 .eql false (.s 4) (.k (.int .i64 3))⟩, ⟨none, .mov 14 (.s 15)⟩]) (.cond (.s 14) (.seq (.seq (.reg [⟨none, .off 16 3 (.s 1)⟩, ⟨none, .ld 17 1 false (.s 16)⟩, ⟨none, .call (some 18) (.k (.fn 60 [])) [.s 17]⟩]) (.cond (.s 18) (.seq (.reg [⟨none, .off 19 3 (.s 1)⟩, ⟨none, .ld 20 1 false (.s 19)⟩, ⟨none, .mov 2 (.s 20)⟩]) .ret) .skip)) (.seq (.reg [⟨none, .off 21 3 (.s 1)⟩, ⟨none, .ld 22 1 false (.s 21)⟩, ⟨none, .call (some 23) (.k (.fn 61 [])) [.s 22]⟩, ⟨none, .mov 2 (.s 23)⟩]) .ret)) (.seq (.reg [⟨none, .bin 25 .eql false (.s 4) (.k (.int .i64 4))⟩, ⟨none, .mov 24 (.s 25)⟩]) (.cond (.s 24) (.seq (.reg [⟨none, .mov 2 (.k (.str ⟨#[91, 93]⟩))⟩]) .ret) (.seq (.reg [⟨none, .bin 27 .eql false (.s 4) (.k (.int .i64 5))⟩, ⟨none, .mov 26 (.s 27)⟩]) (.cond (.s 26) (.seq (.reg [⟨none, .mov 2 (.k (.str ⟨#[123, 125]⟩))⟩]) .ret) .skip)))))))))))) (.seq (.reg [⟨none, .mov 2 (.k (.str ⟨#[110, 117, 108, 108]⟩))⟩]) .ret))
def a_ref04_Print : AFn := ⟨1, 28, b_ref04_Print, [.tmp 2]⟩
theorem a_ref04_Print_ok : fnAF Tryz.prog [] Tryz.f29 = some a_ref04_Print := by kernel_rfl
theorem a_ref04_Print_cb : callable Tryz.prog 29 = true := by kernel_rfl

/-- mizzen scalar.letter -/
def b_scalar_letter : ACode :=
  .seq (.reg [⟨none, .mov 2 (.k (.bool false))⟩]) (.seq (.reg [⟨none, .mov 3 (.s 0)⟩, ⟨none, .bin 4 .geq false (.s 3) (.k (.int .u8 97))⟩, ⟨none, .mov 5 (.s 4)⟩, ⟨some (5, true), .mov 6 (.s 0)⟩, ⟨some (5, true), .bin 7 .leq false (.s 6) (.k (.int .u8 122))⟩, ⟨none, .pick 8 (.s 5) (.s 7) (.k (.bool false))⟩, ⟨none, .mov 9 (.s 8)⟩, ⟨some (9, false), .mov 10 (.s 0)⟩, ⟨some (9, false), .bin 11 .geq false (.s 10) (.k (.int .u8 65))⟩, ⟨some (9, false), .mov 12 (.s 11)⟩, ⟨some (12, true), .mov 13 (.s 0)⟩, ⟨some (12, true), .bin 14 .leq false (.s 13) (.k (.int .u8 90))⟩, ⟨some (9, false), .pick 15 (.s 12) (.s 14) (.k (.bool false))⟩, ⟨none, .pick 16 (.s 9) (.k (.bool true)) (.s 15)⟩, ⟨none, .mov 2 (.s 16)⟩]) .ret)
def a_scalar_letter : AFn := ⟨1, 17, b_scalar_letter, [.tmp 2]⟩
theorem a_scalar_letter_ok : fnAF Tryz.prog [] Tryz.f111 = some a_scalar_letter := by kernel_rfl
theorem a_scalar_letter_cb : callable Tryz.prog 111 = true := by kernel_rfl

/-- mizzen scalar.digit -/
def b_scalar_digit : ACode :=
  .seq (.reg [⟨none, .mov 2 (.k (.bool false))⟩]) (.seq (.reg [⟨none, .mov 3 (.s 0)⟩, ⟨none, .bin 4 .geq false (.s 3) (.k (.int .u8 48))⟩, ⟨none, .mov 5 (.s 4)⟩, ⟨some (5, true), .mov 6 (.s 0)⟩, ⟨some (5, true), .bin 7 .leq false (.s 6) (.k (.int .u8 57))⟩, ⟨none, .pick 8 (.s 5) (.s 7) (.k (.bool false))⟩, ⟨none, .mov 2 (.s 8)⟩]) .ret)
def a_scalar_digit : AFn := ⟨1, 9, b_scalar_digit, [.tmp 2]⟩
theorem a_scalar_digit_ok : fnAF Tryz.prog [] Tryz.f112 = some a_scalar_digit := by kernel_rfl
theorem a_scalar_digit_cb : callable Tryz.prog 112 = true := by kernel_rfl

/-- mizzen scalar.Bare -/
def b_scalar_Bare : ACode :=
  .seq (.reg [⟨none, .mov 2 (.k (.bool false))⟩]) (.seq (.seq (.reg [⟨none, .mov 5 (.s 0)⟩, ⟨none, .len 6 true (.s 5)⟩, ⟨none, .mov 7 (.k (.int .i64 0))⟩]) (.block 0 (.loop (.seq (.reg [⟨none, .bin 8 .lss false (.s 7) (.s 6)⟩]) (.seq (.cond (.s 8) .skip (.exit 0)) (.seq (.block 1 (.seq (.reg [⟨none, .mov 9 (.s 7)⟩, ⟨none, .mov 3 (.s 9)⟩]) (.seq (.reg [⟨none, .mov 10 (.s 0)⟩, ⟨none, .mov 11 (.s 3)⟩, ⟨none, .bidx 12 (.s 10) (.s 11)⟩, ⟨none, .mov 4 (.s 12)⟩]) (.seq (.reg [⟨none, .mov 13 (.s 4)⟩, ⟨none, .call (some 14) (.k (.fn 111 [])) [.s 13]⟩, ⟨none, .un 15 .not (.s 14)⟩, ⟨none, .mov 16 (.s 15)⟩, ⟨some (16, true), .mov 17 (.s 3)⟩, ⟨some (16, true), .bin 18 .eql false (.s 17) (.k (.int .i64 0))⟩, ⟨some (16, true), .mov 19 (.s 18)⟩, ⟨some (19, false), .mov 20 (.s 4)⟩, ⟨some (19, false), .call (some 21) (.k (.fn 112 [])) [.s 20]⟩, ⟨some (19, false), .un 22 .not (.s 21)⟩, ⟨some (19, false), .mov 23 (.s 22)⟩, ⟨some (23, true), .mov 24 (.s 4)⟩, ⟨some (23, true), .call (some 25) (.k (.fn 113 [])) [.k (.str ⟨#[95, 45, 46, 47]⟩), .s 24]⟩, ⟨some (23, true), .bin 26 .lss false (.s 25) (.k (.int .i64 0))⟩, ⟨some (19, false), .pick 27 (.s 23) (.s 26) (.k (.bool false))⟩, ⟨some (16, true), .pick 28 (.s 19) (.k (.bool true)) (.s 27)⟩, ⟨none, .pick 29 (.s 16) (.s 28) (.k (.bool false))⟩]) (.cond (.s 29) (.seq (.reg [⟨none, .mov 2 (.k (.bool false))⟩]) .ret) .skip))))) (.reg [⟨none, .bin 30 .add false (.s 7) (.k (.int .i64 1))⟩, ⟨none, .mov 7 (.s 30)⟩]))))))) (.seq (.seq (.reg [⟨none, .mov 31 (.s 0)⟩]) (.block 2 (.seq (.seq (.reg [⟨none, .bin 33 .eql false (.s 31) (.k (.str ⟨#[]⟩))⟩, ⟨none, .mov 32 (.s 33)⟩]) (.cond (.s 32) .skip (.seq (.reg [⟨none, .bin 34 .eql false (.s 31) (.k (.str ⟨#[110, 117, 108, 108]⟩))⟩, ⟨none, .mov 32 (.s 34)⟩]) (.cond (.s 32) .skip (.seq (.reg [⟨none, .bin 35 .eql false (.s 31) (.k (.str ⟨#[116, 114, 117, 101]⟩))⟩, ⟨none, .mov 32 (.s 35)⟩]) (.cond (.s 32) .skip (.reg [⟨none, .bin 36 .eql false (.s 31) (.k (.str ⟨#[102, 97, 108, 115, 101]⟩))⟩, ⟨none, .mov 32 (.s 36)⟩]))))))) (.cond (.s 32) (.seq (.reg [⟨none, .mov 2 (.k (.bool false))⟩]) .ret) .skip)))) (.seq (.reg [⟨none, .mov 2 (.k (.bool true))⟩]) .ret)))
def a_scalar_Bare : AFn := ⟨1, 37, b_scalar_Bare, [.tmp 2]⟩
theorem a_scalar_Bare_ok : fnAF Tryz.prog [] Tryz.f79 = some a_scalar_Bare := by kernel_rfl
theorem a_scalar_Bare_cb : callable Tryz.prog 79 = true := by kernel_rfl

/-- mizzen scalar.Print -/
def b_scalar_Print : ACode :=
  .seq (.reg [⟨none, .box 1 (.s 0)⟩, ⟨none, .mov 2 (.k (.str ⟨#[]⟩))⟩]) (.seq (.seq (.reg [⟨none, .off 3 0 (.s 1)⟩, ⟨none, .ld 4 1 false (.s 3)⟩]) (.block 0 (.seq (.reg [⟨none, .bin 6 .eql false (.s 4) (.k (.int .i64 1))⟩, ⟨none, .mov 5 (.s 6)⟩]) (.cond (.s 5) (.seq (.reg [⟨none, .off 7 1 (.s 1)⟩, ⟨none, .ld 8 1 false (.s 7)⟩, ⟨none, .call (some 9) (.k (.fn 77 [])) [.s 8]⟩, ⟨none, .mov 2 (.s 9)⟩]) .ret) (.seq (.reg [⟨none, .bin 11 .eql false (.s 4) (.k (.int .i64 2))⟩, ⟨none, .mov 10 (.s 11)⟩]) (.cond (.s 10) (.seq (.reg [⟨none, .off 12 2 (.s 1)⟩, ⟨none, .ld 13 1 false (.s 12)⟩, ⟨none, .call (some 14) (.k (.fn 78 [])) [.s 13, .k (.int .i64 10)]⟩, ⟨none, .mov 2 (.s 14)⟩]) .ret) (.seq (.reg [⟨none, .bin 16 .eql false (.s 4) (.k (.int .i64 3))⟩, ⟨none, .mov 15 (.s 16)⟩]) (.cond (.s 15) (.seq (.seq (.reg [⟨none, .off 17 3 (.s 1)⟩, ⟨none, .ld 18 1 false (.s 17)⟩, ⟨none, .call (some 19) (.k (.fn 79 [])) [.s 18]⟩]) (.cond (.s 19) (.seq (.reg [⟨none, .off 20 3 (.s 1)⟩, ⟨none, .ld 21 1 false (.s 20)⟩, ⟨none, .mov 2 (.s 21)⟩]) .ret) .skip)) (.seq (.reg [⟨none, .off 22 3 (.s 1)⟩, ⟨none, .ld 23 1 false (.s 22)⟩, ⟨none, .call (some 24) (.k (.fn 80 [])) [.s 23]⟩, ⟨none, .mov 2 (.s 24)⟩]) .ret)) (.seq (.reg [⟨none, .bin 26 .eql false (.s 4) (.k (.int .i64 4))⟩, ⟨none, .mov 25 (.s 26)⟩]) (.cond (.s 25) (.seq (.reg [⟨none, .mov 2 (.k (.str ⟨#[91, 93]⟩))⟩]) .ret) (.seq (.reg [⟨none, .bin 28 .eql false (.s 4) (.k (.int .i64 5))⟩, ⟨none, .mov 27 (.s 28)⟩]) (.cond (.s 27) (.seq (.reg [⟨none, .mov 2 (.k (.str ⟨#[123, 125]⟩))⟩]) .ret) .skip)))))))))))) (.seq (.reg [⟨none, .mov 2 (.k (.str ⟨#[110, 117, 108, 108]⟩))⟩]) .ret))
def a_scalar_Print : AFn := ⟨1, 29, b_scalar_Print, [.tmp 2]⟩
theorem a_scalar_Print_ok : fnAF Tryz.prog [] Tryz.f44 = some a_scalar_Print := by kernel_rfl
theorem a_scalar_Print_cb : callable Tryz.prog 44 = true := by kernel_rfl

/-- mizzen tree.Text -/
def b_tree_Text : ACode :=
  .seq (.reg [⟨none, .mov 2 (.k (.bool false))⟩]) (.seq (.seq (.reg [⟨none, .mov 5 (.s 0)⟩, ⟨none, .len 6 true (.s 5)⟩, ⟨none, .mov 7 (.k (.int .i64 0))⟩]) (.block 0 (.loop (.seq (.reg [⟨none, .bin 8 .lss false (.s 7) (.s 6)⟩]) (.seq (.cond (.s 8) .skip (.exit 0)) (.seq (.block 1 (.seq (.reg [⟨none, .mov 9 (.s 7)⟩, ⟨none, .mov 3 (.s 9)⟩]) (.seq (.reg [⟨none, .mov 10 (.s 0)⟩, ⟨none, .mov 11 (.s 3)⟩, ⟨none, .bidx 12 (.s 10) (.s 11)⟩, ⟨none, .mov 4 (.s 12)⟩]) (.seq (.reg [⟨none, .mov 13 (.s 4)⟩, ⟨none, .bin 14 .lss false (.s 13) (.k (.int .u8 32))⟩, ⟨none, .mov 15 (.s 14)⟩, ⟨some (15, true), .mov 16 (.s 4)⟩, ⟨some (15, true), .bin 17 .neq false (.s 16) (.k (.int .u8 10))⟩, ⟨none, .pick 18 (.s 15) (.s 17) (.k (.bool false))⟩, ⟨none, .mov 19 (.s 18)⟩, ⟨some (19, true), .mov 20 (.s 4)⟩, ⟨some (19, true), .bin 21 .neq false (.s 20) (.k (.int .u8 9))⟩, ⟨none, .pick 22 (.s 19) (.s 21) (.k (.bool false))⟩, ⟨none, .mov 23 (.s 22)⟩, ⟨some (23, false), .mov 24 (.s 4)⟩, ⟨some (23, false), .bin 25 .gtr false (.s 24) (.k (.int .u8 126))⟩, ⟨none, .pick 26 (.s 23) (.k (.bool true)) (.s 25)⟩]) (.cond (.s 26) (.seq (.reg [⟨none, .mov 2 (.k (.bool false))⟩]) .ret) .skip))))) (.reg [⟨none, .bin 27 .add false (.s 7) (.k (.int .i64 1))⟩, ⟨none, .mov 7 (.s 27)⟩]))))))) (.seq (.reg [⟨none, .mov 28 (.s 0)⟩, ⟨none, .len 29 true (.s 28)⟩, ⟨none, .bin 30 .leq false (.s 29) (.k (.int .i64 65536))⟩, ⟨none, .mov 2 (.s 30)⟩]) .ret))
def a_tree_Text : AFn := ⟨1, 31, b_tree_Text, [.tmp 2]⟩
theorem a_tree_Text_ok : fnAF Tryz.prog [] Tryz.f97 = some a_tree_Text := by kernel_rfl
theorem a_tree_Text_cb : callable Tryz.prog 97 = true := by kernel_rfl

/-- mizzen tree.Str -/
def b_tree_Str : ACode :=
  .seq (.reg [⟨none, .alloc 2 [.int .i64 0, .bool false, .int .i64 0, .str ⟨#[]⟩, .lst .nil 6 [], .lst .nil 7 []]⟩]) (.seq (.reg [⟨none, .mov 3 (.s 0)⟩, ⟨none, .build 4 [.int .i64 0, .bool false, .int .i64 0, .str ⟨#[]⟩, .lst .nil 6 [], .lst .nil 7 []] [(0, 1, .k (.int .i64 3)), (3, 1, .s 3)]⟩, ⟨none, .st 6 (.s 2) (.s 4)⟩]) .ret)
def a_tree_Str : AFn := ⟨1, 5, b_tree_Str, [.cell 2 6 true]⟩
theorem a_tree_Str_ok : fnAF Tryz.prog [] Tryz.f82 = some a_tree_Str := by kernel_rfl
theorem a_tree_Str_cb : callable Tryz.prog 82 = true := by kernel_rfl

/-- mizzen tree.Null -/
def b_tree_Null : ACode :=
  .seq (.reg [⟨none, .alloc 0 [.int .i64 0, .bool false, .int .i64 0, .str ⟨#[]⟩, .lst .nil 6 [], .lst .nil 7 []]⟩]) (.seq (.reg [⟨none, .build 1 [.int .i64 0, .bool false, .int .i64 0, .str ⟨#[]⟩, .lst .nil 6 [], .lst .nil 7 []] []⟩, ⟨none, .st 6 (.s 0) (.s 1)⟩]) .ret)
def a_tree_Null : AFn := ⟨0, 2, b_tree_Null, [.cell 0 6 true]⟩
theorem a_tree_Null_ok : fnAF Tryz.prog [] Tryz.f22 = some a_tree_Null := by kernel_rfl
theorem a_tree_Null_cb : callable Tryz.prog 22 = true := by kernel_rfl

/-- mizzen tree.Bool -/
def b_tree_Bool : ACode :=
  .seq (.reg [⟨none, .alloc 2 [.int .i64 0, .bool false, .int .i64 0, .str ⟨#[]⟩, .lst .nil 6 [], .lst .nil 7 []]⟩]) (.seq (.reg [⟨none, .mov 3 (.s 0)⟩, ⟨none, .build 4 [.int .i64 0, .bool false, .int .i64 0, .str ⟨#[]⟩, .lst .nil 6 [], .lst .nil 7 []] [(0, 1, .k (.int .i64 1)), (1, 1, .s 3)]⟩, ⟨none, .st 6 (.s 2) (.s 4)⟩]) .ret)
def a_tree_Bool : AFn := ⟨1, 5, b_tree_Bool, [.cell 2 6 true]⟩
theorem a_tree_Bool_ok : fnAF Tryz.prog [] Tryz.f142 = some a_tree_Bool := by kernel_rfl
theorem a_tree_Bool_cb : callable Tryz.prog 142 = true := by kernel_rfl

/-- mizzen tree.List -/
def b_tree_List : ACode :=
  .seq (.reg [⟨none, .alloc 2 [.int .i64 0, .bool false, .int .i64 0, .str ⟨#[]⟩, .lst .nil 6 [], .lst .nil 7 []]⟩]) (.seq (.reg [⟨none, .build 6 [.int .i64 0, .bool false, .int .i64 0, .str ⟨#[]⟩, .lst .nil 6 [], .lst .nil 7 []] [(0, 1, .k (.int .i64 4))]⟩, ⟨none, .alloc 3 [.int .i64 0, .bool false, .int .i64 0, .str ⟨#[]⟩, .lst .nil 6 [], .lst .nil 7 []]⟩, ⟨none, .st 6 (.s 3) (.s 6)⟩]) (.seq (.seq (.reg [⟨none, .mov 7 (.s 0)⟩, ⟨none, .len 8 false (.s 7)⟩, ⟨none, .mov 9 (.k (.int .i64 0))⟩]) (.block 0 (.loop (.seq (.reg [⟨none, .bin 10 .lss false (.s 9) (.s 8)⟩]) (.seq (.cond (.s 10) .skip (.exit 0)) (.seq (.block 1 (.seq (.reg [⟨none, .idx 11 6 (.s 7) (.s 9)⟩, ⟨none, .ld 12 6 true (.s 11)⟩, ⟨none, .alloc 5 [.int .i64 0, .bool false, .int .i64 0, .str ⟨#[]⟩, .lst .nil 6 [], .lst .nil 7 []]⟩, ⟨none, .st 6 (.s 5) (.s 12)⟩]) (.reg [⟨none, .off 13 4 (.s 3)⟩, ⟨none, .ld 14 1 false (.s 13)⟩, ⟨none, .ld 15 6 true (.s 5)⟩, ⟨none, .call (some 16) (.k (.fn 117 [])) [.s 15]⟩, ⟨none, .bsl 17 1 6 [.int .i64 0, .bool false, .int .i64 0, .str ⟨#[]⟩, .lst .nil 6 [], .lst .nil 7 []] [(0, 6, .s 16)]⟩, ⟨none, .app 18 6 88 (.s 14) (.s 17)⟩, ⟨none, .off 19 4 (.s 3)⟩, ⟨none, .st 1 (.s 19) (.s 18)⟩]))) (.reg [⟨none, .bin 20 .add false (.s 9) (.k (.int .i64 1))⟩, ⟨none, .mov 9 (.s 20)⟩]))))))) (.seq (.reg [⟨none, .ld 21 6 true (.s 3)⟩, ⟨none, .st 6 (.s 2) (.s 21)⟩]) .ret)))
def a_tree_List : AFn := ⟨1, 22, b_tree_List, [.cell 2 6 true]⟩
theorem a_tree_List_ok : fnAF Tryz.prog [] Tryz.f90 = some a_tree_List := by kernel_rfl
theorem a_tree_List_cb : callable Tryz.prog 90 = true := by kernel_rfl

/-- mizzen yaml.Emit -/
def b_yaml_Emit : ACode :=
  .seq (.reg [⟨none, .box 1 (.s 0)⟩, ⟨none, .mov 2 (.k (.str ⟨#[]⟩))⟩]) (.seq (.reg [⟨none, .alloc 3 [.raw (Value.pointer none), .lst .nil 1 []]⟩]) (.seq (.seq (.reg [⟨none, .off 4 4 (.s 1)⟩, ⟨none, .ld 5 1 false (.s 4)⟩, ⟨none, .len 6 false (.s 5)⟩, ⟨none, .off 7 5 (.s 1)⟩, ⟨none, .ld 8 1 false (.s 7)⟩, ⟨none, .len 9 false (.s 8)⟩, ⟨none, .bin 10 .add false (.s 6) (.s 9)⟩, ⟨none, .bin 11 .eql false (.s 10) (.k (.int .i64 0))⟩]) (.cond (.s 11) (.seq (.reg [⟨none, .ld 12 6 true (.s 1)⟩, ⟨none, .call (some 13) (.k (.fn 44 [])) [.s 12]⟩, ⟨none, .bin 14 .add false (.s 13) (.k (.str ⟨#[10]⟩))⟩, ⟨none, .mov 2 (.s 14)⟩]) .ret) .skip)) (.seq (.reg [⟨none, .ld 15 6 true (.s 1)⟩, ⟨none, .call (some 16) (.k (.fn 45 [])) [.s 3, .s 15, .k (.int .i64 0)]⟩]) (.seq (.reg [⟨none, .call (some 17) (.k (.fn 38 [])) [.s 3]⟩, ⟨none, .mov 2 (.s 17)⟩]) .ret))))
def a_yaml_Emit : AFn := ⟨1, 18, b_yaml_Emit, [.tmp 2]⟩
theorem a_yaml_Emit_ok : fnAF Tryz.prog [] Tryz.f20 = some a_yaml_Emit := by kernel_rfl
theorem a_yaml_Emit_cb : callable Tryz.prog 20 = true := by kernel_rfl

/-- strings.TrimPrefix -/
def b_strings_TrimPrefix : ACode :=
  .seq (.reg [⟨none, .mov 4 (.k (.str ⟨#[]⟩))⟩]) (.seq (.reg [⟨none, .mov 5 (.s 0)⟩, ⟨none, .mov 6 (.s 1)⟩, ⟨none, .call (some 7) (.k (.fn 164 [])) [.s 5, .s 6]⟩, ⟨none, .mov 4 (.s 7)⟩]) .ret)
def a_strings_TrimPrefix : AFn := ⟨2, 8, b_strings_TrimPrefix, [.tmp 4]⟩
theorem a_strings_TrimPrefix_ok : fnAF Tryz.prog [] Tryz.f157 = some a_strings_TrimPrefix := by kernel_rfl
theorem a_strings_TrimPrefix_cb : callable Tryz.prog 157 = true := by kernel_rfl

/-- internal stringslite.TrimPrefix -/
def b_stringslite_TrimPrefix : ACode :=
  .seq (.reg [⟨none, .mov 4 (.k (.str ⟨#[]⟩))⟩]) (.seq (.seq (.reg [⟨none, .mov 5 (.s 0)⟩, ⟨none, .mov 6 (.s 1)⟩, ⟨none, .call (some 7) (.k (.fn 71 [])) [.s 5, .s 6]⟩]) (.cond (.s 7) (.seq (.reg [⟨none, .mov 8 (.s 0)⟩, ⟨none, .mov 9 (.s 1)⟩, ⟨none, .len 10 true (.s 9)⟩, ⟨none, .sub 11 true 0 (.s 8) (some (.s 10)) none⟩, ⟨none, .mov 4 (.s 11)⟩]) .ret) .skip)) (.seq (.reg [⟨none, .mov 12 (.s 0)⟩, ⟨none, .mov 4 (.s 12)⟩]) .ret))
def a_stringslite_TrimPrefix : AFn := ⟨2, 13, b_stringslite_TrimPrefix, [.tmp 4]⟩
theorem a_stringslite_TrimPrefix_ok : fnAF Tryz.prog [] Tryz.f164 = some a_stringslite_TrimPrefix := by kernel_rfl
theorem a_stringslite_TrimPrefix_cb : callable Tryz.prog 164 = true := by kernel_rfl

/-- strings.Split -/
def b_strings_Split : ACode :=
  .seq (.reg [⟨none, .mov 4 (.k (.lst .nil 1 []))⟩]) (.seq (.reg [⟨none, .mov 5 (.s 0)⟩, ⟨none, .mov 6 (.s 1)⟩, ⟨none, .call (some 7) (.k (.fn 31 [])) [.s 5, .s 6, .k (.int .i64 0), .k (.int .i64 (-1))]⟩, ⟨none, .mov 4 (.s 7)⟩]) .ret)
def a_strings_Split : AFn := ⟨2, 8, b_strings_Split, [.tmp 4]⟩
theorem a_strings_Split_ok : fnAF Tryz.prog [] Tryz.f14 = some a_strings_Split := by kernel_rfl
theorem a_strings_Split_cb : callable Tryz.prog 14 = true := by kernel_rfl

/-- strings.HasPrefix -/
def b_strings_HasPrefix : ACode :=
  .seq (.reg [⟨none, .mov 4 (.k (.bool false))⟩]) (.seq (.reg [⟨none, .mov 5 (.s 0)⟩, ⟨none, .mov 6 (.s 1)⟩, ⟨none, .call (some 7) (.k (.fn 71 [])) [.s 5, .s 6]⟩, ⟨none, .mov 4 (.s 7)⟩]) .ret)
def a_strings_HasPrefix : AFn := ⟨2, 8, b_strings_HasPrefix, [.tmp 4]⟩
theorem a_strings_HasPrefix_ok : fnAF Tryz.prog [] Tryz.f34 = some a_strings_HasPrefix := by kernel_rfl
theorem a_strings_HasPrefix_cb : callable Tryz.prog 34 = true := by kernel_rfl

/-- internal stringslite.HasPrefix -/
def b_stringslite_HasPrefix : ACode :=
  .seq (.reg [⟨none, .mov 4 (.k (.bool false))⟩]) (.seq (.reg [⟨none, .mov 5 (.s 0)⟩, ⟨none, .len 6 true (.s 5)⟩, ⟨none, .mov 7 (.s 1)⟩, ⟨none, .len 8 true (.s 7)⟩, ⟨none, .bin 9 .geq false (.s 6) (.s 8)⟩, ⟨none, .mov 10 (.s 9)⟩, ⟨some (10, true), .mov 11 (.s 0)⟩, ⟨some (10, true), .mov 12 (.s 1)⟩, ⟨some (10, true), .len 13 true (.s 12)⟩, ⟨some (10, true), .sub 14 true 0 (.s 11) none (some (.s 13))⟩, ⟨some (10, true), .mov 15 (.s 1)⟩, ⟨some (10, true), .bin 16 .eql false (.s 14) (.s 15)⟩, ⟨none, .pick 17 (.s 10) (.s 16) (.k (.bool false))⟩, ⟨none, .mov 4 (.s 17)⟩]) .ret)
def a_stringslite_HasPrefix : AFn := ⟨2, 18, b_stringslite_HasPrefix, [.tmp 4]⟩
theorem a_stringslite_HasPrefix_ok : fnAF Tryz.prog [] Tryz.f71 = some a_stringslite_HasPrefix := by kernel_rfl
theorem a_stringslite_HasPrefix_cb : callable Tryz.prog 71 = true := by kernel_rfl

/-- strings.CutPrefix -/
def b_strings_CutPrefix : ACode :=
  .seq (.reg [⟨none, .mov 4 (.k (.str ⟨#[]⟩))⟩, ⟨none, .mov 5 (.k (.bool false))⟩]) (.seq (.reg [⟨none, .mov 6 (.s 0)⟩, ⟨none, .mov 7 (.s 1)⟩, ⟨none, .call (some 8) (.k (.fn 156 [])) [.s 6, .s 7]⟩, ⟨none, .ext 9 0 (.s 8)⟩, ⟨none, .ext 10 1 (.s 8)⟩, ⟨none, .mov 4 (.s 9)⟩, ⟨none, .mov 5 (.s 10)⟩]) .ret)
def a_strings_CutPrefix : AFn := ⟨2, 11, b_strings_CutPrefix, [.tmp 4, .tmp 5]⟩
theorem a_strings_CutPrefix_ok : fnAF Tryz.prog [] Tryz.f141 = some a_strings_CutPrefix := by kernel_rfl
theorem a_strings_CutPrefix_cb : callable Tryz.prog 141 = true := by kernel_rfl

/-- internal stringslite.CutPrefix -/
def b_stringslite_CutPrefix : ACode :=
  .seq (.reg [⟨none, .mov 4 (.k (.str ⟨#[]⟩))⟩, ⟨none, .mov 5 (.k (.bool false))⟩]) (.seq (.seq (.reg [⟨none, .mov 6 (.s 0)⟩, ⟨none, .mov 7 (.s 1)⟩, ⟨none, .call (some 8) (.k (.fn 71 [])) [.s 6, .s 7]⟩, ⟨none, .un 9 .not (.s 8)⟩]) (.cond (.s 9) (.seq (.reg [⟨none, .mov 10 (.s 0)⟩, ⟨none, .mov 4 (.s 10)⟩, ⟨none, .mov 5 (.k (.bool false))⟩]) .ret) .skip)) (.seq (.reg [⟨none, .mov 11 (.s 0)⟩, ⟨none, .mov 12 (.s 1)⟩, ⟨none, .len 13 true (.s 12)⟩, ⟨none, .sub 14 true 0 (.s 11) (some (.s 13)) none⟩, ⟨none, .mov 4 (.s 14)⟩, ⟨none, .mov 5 (.k (.bool true))⟩]) .ret))
def a_stringslite_CutPrefix : AFn := ⟨2, 15, b_stringslite_CutPrefix, [.tmp 4, .tmp 5]⟩
theorem a_stringslite_CutPrefix_ok : fnAF Tryz.prog [] Tryz.f156 = some a_stringslite_CutPrefix := by kernel_rfl
theorem a_stringslite_CutPrefix_cb : callable Tryz.prog 156 = true := by kernel_rfl

/-- strings.Cut -/
def b_strings_Cut : ACode :=
  .seq (.reg [⟨none, .mov 4 (.k (.str ⟨#[]⟩))⟩, ⟨none, .mov 5 (.k (.str ⟨#[]⟩))⟩, ⟨none, .mov 6 (.k (.bool false))⟩]) (.seq (.reg [⟨none, .mov 7 (.s 0)⟩, ⟨none, .mov 8 (.s 1)⟩, ⟨none, .call (some 9) (.k (.fn 155 [])) [.s 7, .s 8]⟩, ⟨none, .ext 10 0 (.s 9)⟩, ⟨none, .ext 11 1 (.s 9)⟩, ⟨none, .ext 12 2 (.s 9)⟩, ⟨none, .mov 4 (.s 10)⟩, ⟨none, .mov 5 (.s 11)⟩, ⟨none, .mov 6 (.s 12)⟩]) .ret)
def a_strings_Cut : AFn := ⟨2, 13, b_strings_Cut, [.tmp 4, .tmp 5, .tmp 6]⟩
theorem a_strings_Cut_ok : fnAF Tryz.prog [] Tryz.f140 = some a_strings_Cut := by kernel_rfl
theorem a_strings_Cut_cb : callable Tryz.prog 140 = true := by kernel_rfl

/-- internal stringslite.Cut -/
def b_stringslite_Cut : ACode :=
  .seq (.reg [⟨none, .mov 4 (.k (.str ⟨#[]⟩))⟩, ⟨none, .mov 5 (.k (.str ⟨#[]⟩))⟩, ⟨none, .mov 6 (.k (.bool false))⟩]) (.seq (.seq (.reg [⟨none, .mov 8 (.s 0)⟩, ⟨none, .mov 9 (.s 1)⟩, ⟨none, .call (some 10) (.k (.fn 104 [])) [.s 8, .s 9]⟩, ⟨none, .mov 7 (.s 10)⟩]) (.seq (.reg [⟨none, .mov 11 (.s 7)⟩, ⟨none, .bin 12 .geq false (.s 11) (.k (.int .i64 0))⟩]) (.cond (.s 12) (.seq (.reg [⟨none, .mov 13 (.s 0)⟩, ⟨none, .mov 14 (.s 7)⟩, ⟨none, .sub 15 true 0 (.s 13) none (some (.s 14))⟩, ⟨none, .mov 16 (.s 0)⟩, ⟨none, .mov 17 (.s 7)⟩, ⟨none, .mov 18 (.s 1)⟩, ⟨none, .len 19 true (.s 18)⟩, ⟨none, .bin 20 .add false (.s 17) (.s 19)⟩, ⟨none, .sub 21 true 0 (.s 16) (some (.s 20)) none⟩, ⟨none, .mov 4 (.s 15)⟩, ⟨none, .mov 5 (.s 21)⟩, ⟨none, .mov 6 (.k (.bool true))⟩]) .ret) .skip))) (.seq (.reg [⟨none, .mov 22 (.s 0)⟩, ⟨none, .mov 4 (.s 22)⟩, ⟨none, .mov 5 (.k (.str ⟨#[]⟩))⟩, ⟨none, .mov 6 (.k (.bool false))⟩]) .ret))
def a_stringslite_Cut : AFn := ⟨2, 23, b_stringslite_Cut, [.tmp 4, .tmp 5, .tmp 6]⟩
theorem a_stringslite_Cut_ok : fnAF Tryz.prog [] Tryz.f155 = some a_stringslite_Cut := by kernel_rfl
theorem a_stringslite_Cut_cb : callable Tryz.prog 155 = true := by kernel_rfl

/-- strings.TrimSuffix -/
def b_strings_TrimSuffix : ACode :=
  .seq (.reg [⟨none, .mov 4 (.k (.str ⟨#[]⟩))⟩]) (.seq (.reg [⟨none, .mov 5 (.s 0)⟩, ⟨none, .mov 6 (.s 1)⟩, ⟨none, .call (some 7) (.k (.fn 32 [])) [.s 5, .s 6]⟩, ⟨none, .mov 4 (.s 7)⟩]) .ret)
def a_strings_TrimSuffix : AFn := ⟨2, 8, b_strings_TrimSuffix, [.tmp 4]⟩
theorem a_strings_TrimSuffix_ok : fnAF Tryz.prog [] Tryz.f15 = some a_strings_TrimSuffix := by kernel_rfl
theorem a_strings_TrimSuffix_cb : callable Tryz.prog 15 = true := by kernel_rfl

/-- internal stringslite.TrimSuffix -/
def b_stringslite_TrimSuffix : ACode :=
  .seq (.reg [⟨none, .mov 4 (.k (.str ⟨#[]⟩))⟩]) (.seq (.seq (.reg [⟨none, .mov 5 (.s 0)⟩, ⟨none, .mov 6 (.s 1)⟩, ⟨none, .call (some 7) (.k (.fn 68 [])) [.s 5, .s 6]⟩]) (.cond (.s 7) (.seq (.reg [⟨none, .mov 8 (.s 0)⟩, ⟨none, .mov 9 (.s 0)⟩, ⟨none, .len 10 true (.s 9)⟩, ⟨none, .mov 11 (.s 1)⟩, ⟨none, .len 12 true (.s 11)⟩, ⟨none, .bin 13 .sub false (.s 10) (.s 12)⟩, ⟨none, .sub 14 true 0 (.s 8) none (some (.s 13))⟩, ⟨none, .mov 4 (.s 14)⟩]) .ret) .skip)) (.seq (.reg [⟨none, .mov 15 (.s 0)⟩, ⟨none, .mov 4 (.s 15)⟩]) .ret))
def a_stringslite_TrimSuffix : AFn := ⟨2, 16, b_stringslite_TrimSuffix, [.tmp 4]⟩
theorem a_stringslite_TrimSuffix_ok : fnAF Tryz.prog [] Tryz.f32 = some a_stringslite_TrimSuffix := by kernel_rfl
theorem a_stringslite_TrimSuffix_cb : callable Tryz.prog 32 = true := by kernel_rfl
end Go.Proofs.YtgekcnpfflhpkaaGreatDoor
