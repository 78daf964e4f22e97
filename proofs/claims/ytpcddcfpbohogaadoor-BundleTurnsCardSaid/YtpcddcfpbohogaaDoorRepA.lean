/-
  Functions of the program as instructions.
-/
import Derived.Test.YtpcddcfpbohogaaDoorChecked
import Derived.Test.YtpcddcfpbohogaaDoorAF
import Derived.KernelRfl
namespace Go.Proofs.YtpcddcfpbohogaaDoor
set_option maxRecDepth 100000

/-- mizzen mizzenref04.Bare -/
def b_ref04_Bare : ACode :=
  .seq (.reg [⟨none, .mov 2 (.k (.bool false))⟩]) (.seq (.seq (.reg [⟨none, .mov 7 (.s 0)⟩, ⟨none, .len 8 true (.s 7)⟩, ⟨none, .bin 9 .eql false (.s 8) (.k (.int .i64 0))⟩, ⟨none, .mov 10 (.s 9)⟩, ⟨some (10, false), .mov 11 (.s 0)⟩, ⟨some (10, false), .bin 12 .eql false (.s 11) (.k (.str ⟨#[110, 117, 108, 108]⟩))⟩, ⟨none, .pick 13 (.s 10) (.k (.bool true)) (.s 12)⟩, ⟨none, .mov 14 (.s 13)⟩, ⟨some (14, false), .mov 15 (.s 0)⟩, ⟨some (14, false), .bin 16 .eql false (.s 15) (.k (.str ⟨#[116, 114, 117, 101]⟩))⟩, ⟨none, .pick 17 (.s 14) (.k (.bool true)) (.s 16)⟩, ⟨none, .mov 18 (.s 17)⟩, ⟨some (18, false), .mov 19 (.s 0)⟩, ⟨some (18, false), .bin 20 .eql false (.s 19) (.k (.str ⟨#[102, 97, 108, 115, 101]⟩))⟩, ⟨none, .pick 21 (.s 18) (.k (.bool true)) (.s 20)⟩]) (.cond (.s 21) (.seq (.reg [⟨none, .mov 2 (.k (.bool false))⟩]) .ret) .skip)) (.seq (.seq (.reg [⟨none, .mov 3 (.k (.int .i64 0))⟩]) (.block 0 (.loop (.seq (.seq (.reg [⟨none, .mov 22 (.s 3)⟩, ⟨none, .mov 23 (.s 0)⟩, ⟨none, .len 24 true (.s 23)⟩, ⟨none, .bin 25 .lss false (.s 22) (.s 24)⟩]) (.cond (.s 25) .skip (.exit 0))) (.seq (.block 1 (.seq (.reg [⟨none, .mov 28 (.s 0)⟩, ⟨none, .mov 29 (.s 3)⟩, ⟨none, .bidx 30 (.s 28) (.s 29)⟩, ⟨none, .mov 4 (.s 30)⟩]) (.seq (.reg [⟨none, .mov 31 (.s 4)⟩, ⟨none, .bin 32 .geq false (.s 31) (.k (.int .u8 65))⟩, ⟨none, .mov 33 (.s 32)⟩, ⟨some (33, true), .mov 34 (.s 4)⟩, ⟨some (33, true), .bin 35 .leq false (.s 34) (.k (.int .u8 90))⟩, ⟨none, .pick 36 (.s 33) (.s 35) (.k (.bool false))⟩, ⟨none, .mov 37 (.s 36)⟩, ⟨some (37, false), .mov 38 (.s 4)⟩, ⟨some (37, false), .bin 39 .geq false (.s 38) (.k (.int .u8 97))⟩, ⟨some (37, false), .mov 40 (.s 39)⟩, ⟨some (40, true), .mov 41 (.s 4)⟩, ⟨some (40, true), .bin 42 .leq false (.s 41) (.k (.int .u8 122))⟩, ⟨some (37, false), .pick 43 (.s 40) (.s 42) (.k (.bool false))⟩, ⟨none, .pick 44 (.s 37) (.k (.bool true)) (.s 43)⟩, ⟨none, .mov 5 (.s 44)⟩]) (.seq (.reg [⟨none, .mov 45 (.s 4)⟩, ⟨none, .bin 46 .geq false (.s 45) (.k (.int .u8 48))⟩, ⟨none, .mov 47 (.s 46)⟩, ⟨some (47, true), .mov 48 (.s 4)⟩, ⟨some (47, true), .bin 49 .leq false (.s 48) (.k (.int .u8 57))⟩, ⟨none, .pick 50 (.s 47) (.s 49) (.k (.bool false))⟩, ⟨none, .mov 51 (.s 50)⟩, ⟨some (51, false), .mov 52 (.s 4)⟩, ⟨some (51, false), .bin 53 .eql false (.s 52) (.k (.int .u8 95))⟩, ⟨none, .pick 54 (.s 51) (.k (.bool true)) (.s 53)⟩, ⟨none, .mov 55 (.s 54)⟩, ⟨some (55, false), .mov 56 (.s 4)⟩, ⟨some (55, false), .bin 57 .eql false (.s 56) (.k (.int .u8 45))⟩, ⟨none, .pick 58 (.s 55) (.k (.bool true)) (.s 57)⟩, ⟨none, .mov 59 (.s 58)⟩, ⟨some (59, false), .mov 60 (.s 4)⟩, ⟨some (59, false), .bin 61 .eql false (.s 60) (.k (.int .u8 46))⟩, ⟨none, .pick 62 (.s 59) (.k (.bool true)) (.s 61)⟩, ⟨none, .mov 63 (.s 62)⟩, ⟨some (63, false), .mov 64 (.s 4)⟩, ⟨some (63, false), .bin 65 .eql false (.s 64) (.k (.int .u8 47))⟩, ⟨none, .pick 66 (.s 63) (.k (.bool true)) (.s 65)⟩, ⟨none, .mov 6 (.s 66)⟩]) (.seq (.reg [⟨none, .mov 67 (.s 5)⟩, ⟨none, .un 68 .not (.s 67)⟩, ⟨none, .mov 69 (.s 68)⟩, ⟨some (69, true), .mov 70 (.s 3)⟩, ⟨some (69, true), .bin 71 .eql false (.s 70) (.k (.int .i64 0))⟩, ⟨some (69, true), .mov 72 (.s 71)⟩, ⟨some (72, false), .mov 73 (.s 6)⟩, ⟨some (72, false), .un 74 .not (.s 73)⟩, ⟨some (69, true), .pick 75 (.s 72) (.k (.bool true)) (.s 74)⟩, ⟨none, .pick 76 (.s 69) (.s 75) (.k (.bool false))⟩]) (.cond (.s 76) (.seq (.reg [⟨none, .mov 2 (.k (.bool false))⟩]) .ret) .skip)))))) (.reg [⟨none, .mov 26 (.s 3)⟩, ⟨none, .bin 27 .add false (.s 26) (.k (.int .i64 1))⟩, ⟨none, .mov 3 (.s 27)⟩])))))) (.seq (.reg [⟨none, .mov 2 (.k (.bool true))⟩]) .ret)))
def a_ref04_Bare : AFn := ⟨1, 77, b_ref04_Bare, [.tmp 2]⟩
theorem a_ref04_Bare_ok : fnAF Tryd.prog [] Tryd.f21 = some a_ref04_Bare := by kernel_rfl
theorem a_ref04_Bare_cb : callable Tryd.prog 21 = true := by kernel_rfl

/-- mizzen scalar.letter -/
def b_scalar_letter : ACode :=
  .seq (.reg [⟨none, .mov 2 (.k (.bool false))⟩]) (.seq (.reg [⟨none, .mov 3 (.s 0)⟩, ⟨none, .bin 4 .geq false (.s 3) (.k (.int .u8 97))⟩, ⟨none, .mov 5 (.s 4)⟩, ⟨some (5, true), .mov 6 (.s 0)⟩, ⟨some (5, true), .bin 7 .leq false (.s 6) (.k (.int .u8 122))⟩, ⟨none, .pick 8 (.s 5) (.s 7) (.k (.bool false))⟩, ⟨none, .mov 9 (.s 8)⟩, ⟨some (9, false), .mov 10 (.s 0)⟩, ⟨some (9, false), .bin 11 .geq false (.s 10) (.k (.int .u8 65))⟩, ⟨some (9, false), .mov 12 (.s 11)⟩, ⟨some (12, true), .mov 13 (.s 0)⟩, ⟨some (12, true), .bin 14 .leq false (.s 13) (.k (.int .u8 90))⟩, ⟨some (9, false), .pick 15 (.s 12) (.s 14) (.k (.bool false))⟩, ⟨none, .pick 16 (.s 9) (.k (.bool true)) (.s 15)⟩, ⟨none, .mov 2 (.s 16)⟩]) .ret)
def a_scalar_letter : AFn := ⟨1, 17, b_scalar_letter, [.tmp 2]⟩
theorem a_scalar_letter_ok : fnAF Tryd.prog [] Tryd.f43 = some a_scalar_letter := by kernel_rfl
theorem a_scalar_letter_cb : callable Tryd.prog 43 = true := by kernel_rfl

/-- mizzen scalar.digit -/
def b_scalar_digit : ACode :=
  .seq (.reg [⟨none, .mov 2 (.k (.bool false))⟩]) (.seq (.reg [⟨none, .mov 3 (.s 0)⟩, ⟨none, .bin 4 .geq false (.s 3) (.k (.int .u8 48))⟩, ⟨none, .mov 5 (.s 4)⟩, ⟨some (5, true), .mov 6 (.s 0)⟩, ⟨some (5, true), .bin 7 .leq false (.s 6) (.k (.int .u8 57))⟩, ⟨none, .pick 8 (.s 5) (.s 7) (.k (.bool false))⟩, ⟨none, .mov 2 (.s 8)⟩]) .ret)
def a_scalar_digit : AFn := ⟨1, 9, b_scalar_digit, [.tmp 2]⟩
theorem a_scalar_digit_ok : fnAF Tryd.prog [] Tryd.f44 = some a_scalar_digit := by kernel_rfl
theorem a_scalar_digit_cb : callable Tryd.prog 44 = true := by kernel_rfl

/-- mizzen scalar.Bare -/
def b_scalar_Bare : ACode :=
  .seq (.reg [⟨none, .mov 2 (.k (.bool false))⟩]) (.seq (.seq (.reg [⟨none, .mov 5 (.s 0)⟩, ⟨none, .len 6 true (.s 5)⟩, ⟨none, .mov 7 (.k (.int .i64 0))⟩]) (.block 0 (.loop (.seq (.reg [⟨none, .bin 8 .lss false (.s 7) (.s 6)⟩]) (.seq (.cond (.s 8) .skip (.exit 0)) (.seq (.block 1 (.seq (.reg [⟨none, .mov 9 (.s 7)⟩, ⟨none, .mov 3 (.s 9)⟩]) (.seq (.reg [⟨none, .mov 10 (.s 0)⟩, ⟨none, .mov 11 (.s 3)⟩, ⟨none, .bidx 12 (.s 10) (.s 11)⟩, ⟨none, .mov 4 (.s 12)⟩]) (.seq (.reg [⟨none, .mov 13 (.s 4)⟩, ⟨none, .call (some 14) (.k (.fn 43 [])) [.s 13]⟩, ⟨none, .un 15 .not (.s 14)⟩, ⟨none, .mov 16 (.s 15)⟩, ⟨some (16, true), .mov 17 (.s 3)⟩, ⟨some (16, true), .bin 18 .eql false (.s 17) (.k (.int .i64 0))⟩, ⟨some (16, true), .mov 19 (.s 18)⟩, ⟨some (19, false), .mov 20 (.s 4)⟩, ⟨some (19, false), .call (some 21) (.k (.fn 44 [])) [.s 20]⟩, ⟨some (19, false), .un 22 .not (.s 21)⟩, ⟨some (19, false), .mov 23 (.s 22)⟩, ⟨some (23, true), .mov 24 (.s 4)⟩, ⟨some (23, true), .call (some 25) (.k (.fn 45 [])) [.k (.str ⟨#[95, 45, 46, 47]⟩), .s 24]⟩, ⟨some (23, true), .bin 26 .lss false (.s 25) (.k (.int .i64 0))⟩, ⟨some (19, false), .pick 27 (.s 23) (.s 26) (.k (.bool false))⟩, ⟨some (16, true), .pick 28 (.s 19) (.k (.bool true)) (.s 27)⟩, ⟨none, .pick 29 (.s 16) (.s 28) (.k (.bool false))⟩]) (.cond (.s 29) (.seq (.reg [⟨none, .mov 2 (.k (.bool false))⟩]) .ret) .skip))))) (.reg [⟨none, .bin 30 .add false (.s 7) (.k (.int .i64 1))⟩, ⟨none, .mov 7 (.s 30)⟩]))))))) (.seq (.seq (.reg [⟨none, .mov 31 (.s 0)⟩]) (.block 2 (.seq (.seq (.reg [⟨none, .bin 33 .eql false (.s 31) (.k (.str ⟨#[]⟩))⟩, ⟨none, .mov 32 (.s 33)⟩]) (.cond (.s 32) .skip (.seq (.reg [⟨none, .bin 34 .eql false (.s 31) (.k (.str ⟨#[110, 117, 108, 108]⟩))⟩, ⟨none, .mov 32 (.s 34)⟩]) (.cond (.s 32) .skip (.seq (.reg [⟨none, .bin 35 .eql false (.s 31) (.k (.str ⟨#[116, 114, 117, 101]⟩))⟩, ⟨none, .mov 32 (.s 35)⟩]) (.cond (.s 32) .skip (.reg [⟨none, .bin 36 .eql false (.s 31) (.k (.str ⟨#[102, 97, 108, 115, 101]⟩))⟩, ⟨none, .mov 32 (.s 36)⟩]))))))) (.cond (.s 32) (.seq (.reg [⟨none, .mov 2 (.k (.bool false))⟩]) .ret) .skip)))) (.seq (.reg [⟨none, .mov 2 (.k (.bool true))⟩]) .ret)))
def a_scalar_Bare : AFn := ⟨1, 37, b_scalar_Bare, [.tmp 2]⟩
theorem a_scalar_Bare_ok : fnAF Tryd.prog [] Tryd.f27 = some a_scalar_Bare := by kernel_rfl
theorem a_scalar_Bare_cb : callable Tryd.prog 27 = true := by kernel_rfl

/-- mizzen scalar.Print -/
def b_scalar_Print : ACode :=
  .seq (.reg [⟨none, .box 1 (.s 0)⟩, ⟨none, .mov 2 (.k (.str ⟨#[]⟩))⟩]) (.seq (.seq (.reg [⟨none, .off 3 0 (.s 1)⟩, ⟨none, .ld 4 1 false (.s 3)⟩]) (.block 0 (.seq (.reg [⟨none, .bin 6 .eql false (.s 4) (.k (.int .i64 1))⟩, ⟨none, .mov 5 (.s 6)⟩]) (.cond (.s 5) (.seq (.reg [⟨none, .off 7 1 (.s 1)⟩, ⟨none, .ld 8 1 false (.s 7)⟩, ⟨none, .call (some 9) (.k (.fn 73 [])) [.s 8]⟩, ⟨none, .mov 2 (.s 9)⟩]) .ret) (.seq (.reg [⟨none, .bin 11 .eql false (.s 4) (.k (.int .i64 2))⟩, ⟨none, .mov 10 (.s 11)⟩]) (.cond (.s 10) (.seq (.reg [⟨none, .off 12 2 (.s 1)⟩, ⟨none, .ld 13 1 false (.s 12)⟩, ⟨none, .call (some 14) (.k (.fn 74 [])) [.s 13, .k (.int .i64 10)]⟩, ⟨none, .mov 2 (.s 14)⟩]) .ret) (.seq (.reg [⟨none, .bin 16 .eql false (.s 4) (.k (.int .i64 3))⟩, ⟨none, .mov 15 (.s 16)⟩]) (.cond (.s 15) (.seq (.seq (.reg [⟨none, .off 17 3 (.s 1)⟩, ⟨none, .ld 18 1 false (.s 17)⟩, ⟨none, .call (some 19) (.k (.fn 27 [])) [.s 18]⟩]) (.cond (.s 19) (.seq (.reg [⟨none, .off 20 3 (.s 1)⟩, ⟨none, .ld 21 1 false (.s 20)⟩, ⟨none, .mov 2 (.s 21)⟩]) .ret) .skip)) (.seq (.reg [⟨none, .off 22 3 (.s 1)⟩, ⟨none, .ld 23 1 false (.s 22)⟩, ⟨none, .call (some 24) (.k (.fn 75 [])) [.s 23]⟩, ⟨none, .mov 2 (.s 24)⟩]) .ret)) (.seq (.reg [⟨none, .bin 26 .eql false (.s 4) (.k (.int .i64 4))⟩, ⟨none, .mov 25 (.s 26)⟩]) (.cond (.s 25) (.seq (.reg [⟨none, .mov 2 (.k (.str ⟨#[91, 93]⟩))⟩]) .ret) (.seq (.reg [⟨none, .bin 28 .eql false (.s 4) (.k (.int .i64 5))⟩, ⟨none, .mov 27 (.s 28)⟩]) (.cond (.s 27) (.seq (.reg [⟨none, .mov 2 (.k (.str ⟨#[123, 125]⟩))⟩]) .ret) .skip)))))))))))) (.seq (.reg [⟨none, .mov 2 (.k (.str ⟨#[110, 117, 108, 108]⟩))⟩]) .ret))
def a_scalar_Print : AFn := ⟨1, 29, b_scalar_Print, [.tmp 2]⟩
theorem a_scalar_Print_ok : fnAF Tryd.prog [] Tryd.f54 = some a_scalar_Print := by kernel_rfl
theorem a_scalar_Print_cb : callable Tryd.prog 54 = true := by kernel_rfl

/-- mizzen tree.Text -/
def b_tree_Text : ACode :=
  .seq (.reg [⟨none, .mov 2 (.k (.bool false))⟩]) (.seq (.seq (.reg [⟨none, .mov 5 (.s 0)⟩, ⟨none, .len 6 true (.s 5)⟩, ⟨none, .mov 7 (.k (.int .i64 0))⟩]) (.block 0 (.loop (.seq (.reg [⟨none, .bin 8 .lss false (.s 7) (.s 6)⟩]) (.seq (.cond (.s 8) .skip (.exit 0)) (.seq (.block 1 (.seq (.reg [⟨none, .mov 9 (.s 7)⟩, ⟨none, .mov 3 (.s 9)⟩]) (.seq (.reg [⟨none, .mov 10 (.s 0)⟩, ⟨none, .mov 11 (.s 3)⟩, ⟨none, .bidx 12 (.s 10) (.s 11)⟩, ⟨none, .mov 4 (.s 12)⟩]) (.seq (.reg [⟨none, .mov 13 (.s 4)⟩, ⟨none, .bin 14 .lss false (.s 13) (.k (.int .u8 32))⟩, ⟨none, .mov 15 (.s 14)⟩, ⟨some (15, true), .mov 16 (.s 4)⟩, ⟨some (15, true), .bin 17 .neq false (.s 16) (.k (.int .u8 10))⟩, ⟨none, .pick 18 (.s 15) (.s 17) (.k (.bool false))⟩, ⟨none, .mov 19 (.s 18)⟩, ⟨some (19, true), .mov 20 (.s 4)⟩, ⟨some (19, true), .bin 21 .neq false (.s 20) (.k (.int .u8 9))⟩, ⟨none, .pick 22 (.s 19) (.s 21) (.k (.bool false))⟩, ⟨none, .mov 23 (.s 22)⟩, ⟨some (23, false), .mov 24 (.s 4)⟩, ⟨some (23, false), .bin 25 .gtr false (.s 24) (.k (.int .u8 126))⟩, ⟨none, .pick 26 (.s 23) (.k (.bool true)) (.s 25)⟩]) (.cond (.s 26) (.seq (.reg [⟨none, .mov 2 (.k (.bool false))⟩]) .ret) .skip))))) (.reg [⟨none, .bin 27 .add false (.s 7) (.k (.int .i64 1))⟩, ⟨none, .mov 7 (.s 27)⟩]))))))) (.seq (.reg [⟨none, .mov 28 (.s 0)⟩, ⟨none, .len 29 true (.s 28)⟩, ⟨none, .bin 30 .leq false (.s 29) (.k (.int .i64 65536))⟩, ⟨none, .mov 2 (.s 30)⟩]) .ret))
def a_tree_Text : AFn := ⟨1, 31, b_tree_Text, [.tmp 2]⟩
theorem a_tree_Text_ok : fnAF Tryd.prog [] Tryd.f32 = some a_tree_Text := by kernel_rfl
theorem a_tree_Text_cb : callable Tryd.prog 32 = true := by kernel_rfl

/-- mizzen tree.Str -/
def b_tree_Str : ACode :=
  .seq (.reg [⟨none, .alloc 2 [.int .i64 0, .bool false, .int .i64 0, .str ⟨#[]⟩, .lst .nil 6 [], .lst .nil 7 []]⟩]) (.seq (.reg [⟨none, .mov 3 (.s 0)⟩, ⟨none, .build 4 [.int .i64 0, .bool false, .int .i64 0, .str ⟨#[]⟩, .lst .nil 6 [], .lst .nil 7 []] [(0, 1, .k (.int .i64 3)), (3, 1, .s 3)]⟩, ⟨none, .st 6 (.s 2) (.s 4)⟩]) .ret)
def a_tree_Str : AFn := ⟨1, 5, b_tree_Str, [.cell 2 6 true]⟩
theorem a_tree_Str_ok : fnAF Tryd.prog [] Tryd.f34 = some a_tree_Str := by kernel_rfl
theorem a_tree_Str_cb : callable Tryd.prog 34 = true := by kernel_rfl

/-- mizzen mizzenlaw10.Light -/
def b_law10_Light : ACode :=
  .seq (.reg [⟨none, .mov 2 (.k (.bool false))⟩]) (.seq (.reg [⟨none, .mov 3 (.k (.int .i64 0))⟩]) (.seq (.seq (.reg [⟨none, .mov 6 (.s 0)⟩, ⟨none, .len 7 false (.s 6)⟩, ⟨none, .mov 8 (.k (.int .i64 0))⟩]) (.block 0 (.loop (.seq (.reg [⟨none, .bin 9 .lss false (.s 8) (.s 7)⟩]) (.seq (.cond (.s 9) .skip (.exit 0)) (.seq (.block 1 (.seq (.reg [⟨none, .idx 10 2 (.s 6) (.s 8)⟩, ⟨none, .ld 11 2 true (.s 10)⟩, ⟨none, .alloc 5 [.str ⟨#[]⟩, .str ⟨#[]⟩]⟩, ⟨none, .st 2 (.s 5) (.s 11)⟩]) (.reg [⟨none, .mov 12 (.s 3)⟩, ⟨none, .off 13 0 (.s 5)⟩, ⟨none, .ld 14 1 false (.s 13)⟩, ⟨none, .len 15 true (.s 14)⟩, ⟨none, .off 16 1 (.s 5)⟩, ⟨none, .ld 17 1 false (.s 16)⟩, ⟨none, .len 18 true (.s 17)⟩, ⟨none, .bin 19 .add false (.s 15) (.s 18)⟩, ⟨none, .bin 20 .add false (.s 19) (.k (.int .i64 1))⟩, ⟨none, .bin 21 .add false (.s 12) (.s 20)⟩, ⟨none, .mov 3 (.s 21)⟩]))) (.reg [⟨none, .bin 22 .add false (.s 8) (.k (.int .i64 1))⟩, ⟨none, .mov 8 (.s 22)⟩]))))))) (.seq (.reg [⟨none, .mov 23 (.s 3)⟩, ⟨none, .bin 24 .leq false (.s 23) (.k (.int .i64 3000))⟩, ⟨none, .mov 2 (.s 24)⟩]) .ret)))
def a_law10_Light : AFn := ⟨1, 25, b_law10_Light, [.tmp 2]⟩
theorem a_law10_Light_ok : fnAF Tryd.prog [] Tryd.f13 = some a_law10_Light := by kernel_rfl
theorem a_law10_Light_cb : callable Tryd.prog 13 = true := by kernel_rfl

/-- mizzen bundle.Sum -/
def b_bundle_Sum : ACode :=
  .seq (.reg [⟨none, .mov 2 (.k (.int .u64 0))⟩]) (.seq (.reg [⟨none, .mov 3 (.k (.int .u64 14695981039346656037))⟩]) (.seq (.seq (.reg [⟨none, .mov 5 (.s 0)⟩, ⟨none, .len 6 true (.s 5)⟩, ⟨none, .mov 7 (.k (.int .i64 0))⟩]) (.block 0 (.loop (.seq (.reg [⟨none, .bin 8 .lss false (.s 7) (.s 6)⟩]) (.seq (.cond (.s 8) .skip (.exit 0)) (.seq (.block 1 (.seq (.reg [⟨none, .mov 9 (.s 7)⟩, ⟨none, .mov 4 (.s 9)⟩]) (.reg [⟨none, .mov 10 (.s 3)⟩, ⟨none, .mov 11 (.s 0)⟩, ⟨none, .mov 12 (.s 4)⟩, ⟨none, .bidx 13 (.s 11) (.s 12)⟩, ⟨none, .conv 14 .u64 (.s 13)⟩, ⟨none, .bin 15 .xor false (.s 10) (.s 14)⟩, ⟨none, .bin 16 .mul false (.s 15) (.k (.int .u64 1099511628211))⟩, ⟨none, .mov 3 (.s 16)⟩]))) (.reg [⟨none, .bin 17 .add false (.s 7) (.k (.int .i64 1))⟩, ⟨none, .mov 7 (.s 17)⟩]))))))) (.seq (.reg [⟨none, .mov 18 (.s 3)⟩, ⟨none, .mov 2 (.s 18)⟩]) .ret)))
def a_bundle_Sum : AFn := ⟨1, 19, b_bundle_Sum, [.tmp 2]⟩
theorem a_bundle_Sum_ok : fnAF Tryd.prog [] Tryd.f16 = some a_bundle_Sum := by kernel_rfl
theorem a_bundle_Sum_cb : callable Tryd.prog 16 = true := by kernel_rfl

/-- mizzen bundle.Pack -/
def b_bundle_Pack : ACode :=
  .seq (.reg [⟨none, .mov 2 (.k (.str ⟨#[]⟩))⟩, ⟨none, .mov 3 (.k (.int .i64 0))⟩]) (.seq (.seq (.reg [⟨none, .mov 10 (.s 0)⟩, ⟨none, .len 11 false (.s 10)⟩, ⟨none, .bin 12 .gtr false (.s 11) (.k (.int .i64 32))⟩]) (.cond (.s 12) (.seq (.reg [⟨none, .mov 2 (.k (.str ⟨#[]⟩))⟩, ⟨none, .mov 3 (.k (.int .i64 6))⟩]) .ret) .skip)) (.seq (.reg [⟨none, .call (some 13) (.k (.fn 29 [])) [.k (.lst .nil 7 [])]⟩, ⟨none, .alloc 4 [.int .i64 0, .bool false, .int .i64 0, .str ⟨#[]⟩, .lst .nil 6 [], .lst .nil 7 []]⟩, ⟨none, .st 6 (.s 4) (.s 13)⟩]) (.seq (.seq (.reg [⟨none, .mov 14 (.s 0)⟩, ⟨none, .len 15 false (.s 14)⟩, ⟨none, .mov 16 (.k (.int .i64 0))⟩]) (.block 0 (.loop (.seq (.reg [⟨none, .bin 17 .lss false (.s 16) (.s 15)⟩]) (.seq (.cond (.s 17) .skip (.exit 0)) (.seq (.block 1 (.seq (.reg [⟨none, .idx 18 2 (.s 14) (.s 16)⟩, ⟨none, .ld 19 2 true (.s 18)⟩, ⟨none, .alloc 6 [.str ⟨#[]⟩, .str ⟨#[]⟩]⟩, ⟨none, .st 2 (.s 6) (.s 19)⟩]) (.seq (.seq (.reg [⟨none, .ld 21 6 true (.s 4)⟩, ⟨none, .off 22 0 (.s 6)⟩, ⟨none, .ld 23 1 false (.s 22)⟩, ⟨none, .call (some 24) (.k (.fn 30 [])) [.s 21, .s 23]⟩, ⟨none, .mov 20 (.s 24)⟩, ⟨none, .ext 25 0 (.s 20)⟩, ⟨none, .ext 26 1 (.s 20)⟩, ⟨none, .alloc 7 [.int .i64 0, .bool false, .int .i64 0, .str ⟨#[]⟩, .lst .nil 6 [], .lst .nil 7 []]⟩, ⟨none, .st 6 (.s 7) (.s 25)⟩, ⟨none, .mov 8 (.s 26)⟩]) (.block 2 (.seq (.reg [⟨none, .off 28 0 (.s 6)⟩, ⟨none, .ld 29 1 false (.s 28)⟩, ⟨none, .call (some 30) (.k (.fn 31 [])) [.s 29]⟩, ⟨none, .un 31 .not (.s 30)⟩, ⟨none, .mov 27 (.s 31)⟩]) (.cond (.s 27) (.seq (.reg [⟨none, .mov 2 (.k (.str ⟨#[]⟩))⟩, ⟨none, .mov 3 (.k (.int .i64 22))⟩]) .ret) (.seq (.reg [⟨none, .off 33 1 (.s 6)⟩, ⟨none, .ld 34 1 false (.s 33)⟩, ⟨none, .call (some 35) (.k (.fn 32 [])) [.s 34]⟩, ⟨none, .un 36 .not (.s 35)⟩, ⟨none, .mov 32 (.s 36)⟩]) (.cond (.s 32) (.seq (.reg [⟨none, .mov 2 (.k (.str ⟨#[]⟩))⟩, ⟨none, .mov 3 (.k (.int .i64 10))⟩]) .ret) (.seq (.reg [⟨none, .mov 38 (.s 8)⟩, ⟨none, .mov 37 (.s 38)⟩]) (.cond (.s 37) (.seq (.reg [⟨none, .mov 2 (.k (.str ⟨#[]⟩))⟩, ⟨none, .mov 3 (.k (.int .i64 13))⟩]) .ret) .skip)))))))) (.reg [⟨none, .ld 39 6 true (.s 4)⟩, ⟨none, .off 40 0 (.s 6)⟩, ⟨none, .ld 41 1 false (.s 40)⟩, ⟨none, .off 42 1 (.s 6)⟩, ⟨none, .ld 43 1 false (.s 42)⟩, ⟨none, .call (some 44) (.k (.fn 34 [])) [.s 43]⟩, ⟨none, .call (some 45) (.k (.fn 33 [])) [.s 39, .s 41, .s 44]⟩, ⟨none, .st 6 (.s 4) (.s 45)⟩])))) (.reg [⟨none, .bin 46 .add false (.s 16) (.k (.int .i64 1))⟩, ⟨none, .mov 16 (.s 46)⟩]))))))) (.seq (.reg [⟨none, .ld 47 6 true (.s 4)⟩, ⟨none, .call (some 48) (.k (.fn 35 [])) [.s 47]⟩, ⟨none, .mov 9 (.s 48)⟩]) (.seq (.seq (.reg [⟨none, .mov 49 (.s 9)⟩, ⟨none, .len 50 true (.s 49)⟩, ⟨none, .bin 51 .gtr false (.s 50) (.k (.int .i64 65536))⟩]) (.cond (.s 51) (.seq (.reg [⟨none, .mov 2 (.k (.str ⟨#[]⟩))⟩, ⟨none, .mov 3 (.k (.int .i64 6))⟩]) .ret) .skip)) (.seq (.reg [⟨none, .mov 52 (.s 9)⟩, ⟨none, .mov 2 (.s 52)⟩, ⟨none, .mov 3 (.k (.int .i64 0))⟩]) .ret))))))
def a_bundle_Pack : AFn := ⟨1, 53, b_bundle_Pack, [.tmp 2, .tmp 3]⟩
theorem a_bundle_Pack_ok : fnAF Tryd.prog [] Tryd.f15 = some a_bundle_Pack := by kernel_rfl
theorem a_bundle_Pack_cb : callable Tryd.prog 15 = true := by kernel_rfl

/-- mizzen chart.Name -/
def b_chart_Name : ACode :=
  .seq (.reg [⟨none, .mov 2 (.k (.bool false))⟩]) (.seq (.seq (.reg [⟨none, .mov 5 (.s 0)⟩, ⟨none, .call (some 6) (.k (.fn 51 [])) [.s 5, .k (.str ⟨#[47]⟩)]⟩, ⟨none, .len 7 false (.s 6)⟩, ⟨none, .mov 8 (.k (.int .i64 0))⟩]) (.block 0 (.loop (.seq (.reg [⟨none, .bin 9 .lss false (.s 8) (.s 7)⟩]) (.seq (.cond (.s 9) .skip (.exit 0)) (.seq (.block 1 (.seq (.reg [⟨none, .idx 10 1 (.s 6) (.s 8)⟩, ⟨none, .ld 11 1 false (.s 10)⟩, ⟨none, .mov 4 (.s 11)⟩]) (.seq (.reg [⟨none, .mov 12 (.s 4)⟩, ⟨none, .bin 13 .eql false (.s 12) (.k (.str ⟨#[]⟩))⟩, ⟨none, .mov 14 (.s 13)⟩, ⟨some (14, false), .mov 15 (.s 4)⟩, ⟨some (14, false), .bin 16 .eql false (.s 15) (.k (.str ⟨#[46]⟩))⟩, ⟨none, .pick 17 (.s 14) (.k (.bool true)) (.s 16)⟩, ⟨none, .mov 18 (.s 17)⟩, ⟨some (18, false), .mov 19 (.s 4)⟩, ⟨some (18, false), .bin 20 .eql false (.s 19) (.k (.str ⟨#[46, 46]⟩))⟩, ⟨none, .pick 21 (.s 18) (.k (.bool true)) (.s 20)⟩, ⟨none, .mov 22 (.s 21)⟩, ⟨some (22, false), .mov 23 (.s 4)⟩, ⟨some (22, false), .call (some 24) (.k (.fn 52 [])) [.s 23, .k (.str ⟨#[95]⟩)]⟩, ⟨some (22, false), .call (some 25) (.k (.fn 27 [])) [.s 24]⟩, ⟨some (22, false), .un 26 .not (.s 25)⟩, ⟨none, .pick 27 (.s 22) (.k (.bool true)) (.s 26)⟩]) (.cond (.s 27) (.seq (.reg [⟨none, .mov 2 (.k (.bool false))⟩]) .ret) .skip)))) (.reg [⟨none, .bin 28 .add false (.s 8) (.k (.int .i64 1))⟩, ⟨none, .mov 8 (.s 28)⟩]))))))) (.seq (.reg [⟨none, .mov 29 (.s 0)⟩, ⟨none, .len 30 true (.s 29)⟩, ⟨none, .bin 31 .leq false (.s 30) (.k (.int .i64 256))⟩, ⟨none, .mov 2 (.s 31)⟩]) .ret))
def a_chart_Name : AFn := ⟨1, 32, b_chart_Name, [.tmp 2]⟩
theorem a_chart_Name_ok : fnAF Tryd.prog [] Tryd.f31 = some a_chart_Name := by kernel_rfl
theorem a_chart_Name_cb : callable Tryd.prog 31 = true := by kernel_rfl

/-- mizzen yaml.Emit -/
def b_yaml_Emit : ACode :=
  .seq (.reg [⟨none, .box 1 (.s 0)⟩, ⟨none, .mov 2 (.k (.str ⟨#[]⟩))⟩]) (.seq (.reg [⟨none, .alloc 3 [.raw (Value.pointer none), .lst .nil 1 []]⟩]) (.seq (.seq (.reg [⟨none, .off 4 4 (.s 1)⟩, ⟨none, .ld 5 1 false (.s 4)⟩, ⟨none, .len 6 false (.s 5)⟩, ⟨none, .off 7 5 (.s 1)⟩, ⟨none, .ld 8 1 false (.s 7)⟩, ⟨none, .len 9 false (.s 8)⟩, ⟨none, .bin 10 .add false (.s 6) (.s 9)⟩, ⟨none, .bin 11 .eql false (.s 10) (.k (.int .i64 0))⟩]) (.cond (.s 11) (.seq (.reg [⟨none, .ld 12 6 true (.s 1)⟩, ⟨none, .call (some 13) (.k (.fn 54 [])) [.s 12]⟩, ⟨none, .bin 14 .add false (.s 13) (.k (.str ⟨#[10]⟩))⟩, ⟨none, .mov 2 (.s 14)⟩]) .ret) .skip)) (.seq (.reg [⟨none, .ld 15 6 true (.s 1)⟩, ⟨none, .call (some 16) (.k (.fn 55 [])) [.s 3, .s 15, .k (.int .i64 0)]⟩]) (.seq (.reg [⟨none, .call (some 17) (.k (.fn 56 [])) [.s 3]⟩, ⟨none, .mov 2 (.s 17)⟩]) .ret))))
def a_yaml_Emit : AFn := ⟨1, 18, b_yaml_Emit, [.tmp 2]⟩
theorem a_yaml_Emit_ok : fnAF Tryd.prog [] Tryd.f35 = some a_yaml_Emit := by kernel_rfl
theorem a_yaml_Emit_cb : callable Tryd.prog 35 = true := by kernel_rfl

/-- mizzen mizzenlaw22.awake -/
def b_law22_awake : ACode :=
  .seq (.reg [⟨none, .mov 0 (.k (.bool false))⟩]) (.seq (.reg [⟨none, .call (some 4) (.k (.fn 15 [])) [.k (.lst .nil 2 [])]⟩, ⟨none, .mov 3 (.s 4)⟩, ⟨none, .ext 5 0 (.s 3)⟩, ⟨none, .ext 6 1 (.s 3)⟩, ⟨none, .mov 1 (.s 5)⟩, ⟨none, .mov 2 (.s 6)⟩]) (.seq (.reg [⟨none, .call (some 7) (.k (.fn 16 [])) [.k (.str ⟨#[]⟩)]⟩, ⟨none, .bin 8 .eql false (.s 7) (.k (.int .u64 14695981039346656037))⟩, ⟨none, .mov 9 (.s 8)⟩, ⟨some (9, true), .mov 10 (.s 2)⟩, ⟨some (9, true), .bin 11 .eql false (.s 10) (.k (.int .i64 0))⟩, ⟨none, .pick 12 (.s 9) (.s 11) (.k (.bool false))⟩, ⟨none, .mov 13 (.s 12)⟩, ⟨some (13, true), .mov 14 (.s 1)⟩, ⟨some (13, true), .bin 15 .eql false (.s 14) (.k (.str ⟨#[123, 125, 10]⟩))⟩, ⟨none, .pick 16 (.s 13) (.s 15) (.k (.bool false))⟩, ⟨none, .mov 0 (.s 16)⟩]) .ret))
def a_law22_awake : AFn := ⟨0, 17, b_law22_awake, [.tmp 0]⟩
theorem a_law22_awake_ok : fnAF Tryd.prog [] Tryd.f14 = some a_law22_awake := by kernel_rfl
theorem a_law22_awake_cb : callable Tryd.prog 14 = true := by kernel_rfl

/-- strings.TrimPrefix -/
def b_strings_TrimPrefix : ACode :=
  .seq (.reg [⟨none, .mov 4 (.k (.str ⟨#[]⟩))⟩]) (.seq (.reg [⟨none, .mov 5 (.s 0)⟩, ⟨none, .mov 6 (.s 1)⟩, ⟨none, .call (some 7) (.k (.fn 72 [])) [.s 5, .s 6]⟩, ⟨none, .mov 4 (.s 7)⟩]) .ret)
def a_strings_TrimPrefix : AFn := ⟨2, 8, b_strings_TrimPrefix, [.tmp 4]⟩
theorem a_strings_TrimPrefix_ok : fnAF Tryd.prog [] Tryd.f52 = some a_strings_TrimPrefix := by kernel_rfl
theorem a_strings_TrimPrefix_cb : callable Tryd.prog 52 = true := by kernel_rfl

/-- internal stringslite.TrimPrefix -/
def b_stringslite_TrimPrefix : ACode :=
  .seq (.reg [⟨none, .mov 4 (.k (.str ⟨#[]⟩))⟩]) (.seq (.seq (.reg [⟨none, .mov 5 (.s 0)⟩, ⟨none, .mov 6 (.s 1)⟩, ⟨none, .call (some 7) (.k (.fn 36 [])) [.s 5, .s 6]⟩]) (.cond (.s 7) (.seq (.reg [⟨none, .mov 8 (.s 0)⟩, ⟨none, .mov 9 (.s 1)⟩, ⟨none, .len 10 true (.s 9)⟩, ⟨none, .sub 11 true 0 (.s 8) (some (.s 10)) none⟩, ⟨none, .mov 4 (.s 11)⟩]) .ret) .skip)) (.seq (.reg [⟨none, .mov 12 (.s 0)⟩, ⟨none, .mov 4 (.s 12)⟩]) .ret))
def a_stringslite_TrimPrefix : AFn := ⟨2, 13, b_stringslite_TrimPrefix, [.tmp 4]⟩
theorem a_stringslite_TrimPrefix_ok : fnAF Tryd.prog [] Tryd.f72 = some a_stringslite_TrimPrefix := by kernel_rfl
theorem a_stringslite_TrimPrefix_cb : callable Tryd.prog 72 = true := by kernel_rfl

/-- strings.Split -/
def b_strings_Split : ACode :=
  .seq (.reg [⟨none, .mov 4 (.k (.lst .nil 1 []))⟩]) (.seq (.reg [⟨none, .mov 5 (.s 0)⟩, ⟨none, .mov 6 (.s 1)⟩, ⟨none, .call (some 7) (.k (.fn 71 [])) [.s 5, .s 6, .k (.int .i64 0), .k (.int .i64 (-1))]⟩, ⟨none, .mov 4 (.s 7)⟩]) .ret)
def a_strings_Split : AFn := ⟨2, 8, b_strings_Split, [.tmp 4]⟩
theorem a_strings_Split_ok : fnAF Tryd.prog [] Tryd.f51 = some a_strings_Split := by kernel_rfl
theorem a_strings_Split_cb : callable Tryd.prog 51 = true := by kernel_rfl
end Go.Proofs.YtpcddcfpbohogaaDoor
