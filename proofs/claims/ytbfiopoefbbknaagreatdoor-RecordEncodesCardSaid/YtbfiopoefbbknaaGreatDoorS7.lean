/-
  The texts that the claim wants, one behind the other: part 7.
-/
import Derived.Test.YtbfiopoefbbknaaGreatDoorS6
import Derived.Test.YtbfiopoefbbknaaGreatDoorChecked
import Derived.KernelRfl
set_option linter.unusedSimpArgs false
set_option linter.unusedVariables false
namespace Go.Proofs.YtbfiopoefbbknaaGreatDoor
set_option maxRecDepth 100000
def b_ref04_Bare : ACode :=
 .seq (gQ [⟨gO, .mov 2 (.k (.bool false))⟩]) (.seq (.seq (gQ [gM 7 0, gH 8 true 7, gU 9 .eql 8 0, gM 10 9, gN 10 false 11 0, ⟨some (10, false), .bin 12 .eql false (.s 11) (gS ⟨#[110, 117, 108, 108]⟩)⟩, ⟨gO, .pick 13 (.s 10) (.k (.bool true)) (.s 12)⟩, gM 14 13, gN 14 false 15 0, ⟨some (14, false), .bin 16 .eql false (.s 15) (gS ⟨#[116, 114, 117, 101]⟩)⟩, ⟨gO, .pick 17 (.s 14) (.k (.bool true)) (.s 16)⟩, gM 18 17, gN 18 false 19 0, ⟨some (18, false), .bin 20 .eql false (.s 19) (gS ⟨#[102, 97, 108, 115, 101]⟩)⟩, ⟨gO, .pick 21 (.s 18) (.k (.bool true)) (.s 20)⟩]) (.cond (.s 21) (.seq (gQ [⟨gO, .mov 2 (.k (.bool false))⟩]) .ret) .skip)) (.seq (.seq (gQ [gJ 3 0]) (.block 0 (.loop (.seq (.seq (gQ [gM 22 3, gM 23 0, gH 24 true 23, gV 25 .lss 22 24]) (.cond (.s 25) .skip (.exit 0))) (.seq (.block 1 (.seq (gQ [gM 28 0, gM 29 3, ⟨gO, .bidx 30 (.s 28) (.s 29)⟩, gM 4 30]) (.seq (gQ [gM 31 4, ⟨gO, gB 32 .geq (.s 31) (.k (.int .u8 65))⟩, gM 33 32, gN 33 true 34 4, ⟨some (33, true), .bin 35 .leq false (.s 34) (.k (.int .u8 90))⟩, ⟨gO, .pick 36 (.s 33) (.s 35) (.k (.bool false))⟩, gM 37 36, gN 37 false 38 4, ⟨some (37, false), .bin 39 .geq false (.s 38) (.k (.int .u8 97))⟩, gN 37 false 40 39, gN 40 true 41 4, ⟨some (40, true), .bin 42 .leq false (.s 41) (.k (.int .u8 122))⟩, ⟨some (37, false), .pick 43 (.s 40) (.s 42) (.k (.bool false))⟩, ⟨gO, .pick 44 (.s 37) (.k (.bool true)) (.s 43)⟩, gM 5 44]) (.seq (gQ [gM 45 4, ⟨gO, gB 46 .geq (.s 45) (.k (.int .u8 48))⟩, gM 47 46, gN 47 true 48 4, ⟨some (47, true), .bin 49 .leq false (.s 48) (.k (.int .u8 57))⟩, ⟨gO, .pick 50 (.s 47) (.s 49) (.k (.bool false))⟩, gM 51 50, gN 51 false 52 4, ⟨some (51, false), .bin 53 .eql false (.s 52) (.k (.int .u8 95))⟩, ⟨gO, .pick 54 (.s 51) (.k (.bool true)) (.s 53)⟩, gM 55 54, gN 55 false 56 4, ⟨some (55, false), .bin 57 .eql false (.s 56) (.k (.int .u8 45))⟩, ⟨gO, .pick 58 (.s 55) (.k (.bool true)) (.s 57)⟩, gM 59 58, gN 59 false 60 4, ⟨some (59, false), .bin 61 .eql false (.s 60) (.k (.int .u8 46))⟩, ⟨gO, .pick 62 (.s 59) (.k (.bool true)) (.s 61)⟩, gM 63 62, gN 63 false 64 4, ⟨some (63, false), .bin 65 .eql false (.s 64) (.k (.int .u8 47))⟩, ⟨gO, .pick 66 (.s 63) (.k (.bool true)) (.s 65)⟩, gM 6 66]) (.seq (gQ [gM 67 5, ⟨gO, .un 68 .not (.s 67)⟩, gM 69 68, gN 69 true 70 3, ⟨some (69, true), .bin 71 .eql false (.s 70) (gI 0)⟩, gN 69 true 72 71, gN 72 false 73 6, ⟨some (72, false), .un 74 .not (.s 73)⟩, ⟨some (69, true), .pick 75 (.s 72) (.k (.bool true)) (.s 74)⟩, ⟨gO, .pick 76 (.s 69) (.s 75) (.k (.bool false))⟩]) (.cond (.s 76) (.seq (gQ [⟨gO, .mov 2 (.k (.bool false))⟩]) .ret) .skip)))))) (.reg [gM 26 3, gU 27 .add 26 1, gM 3 27])))))) (.seq (gQ [⟨gO, .mov 2 (.k (.bool true))⟩]) .ret)))
def a_ref04_Bare : AFn := ⟨1, 77, b_ref04_Bare, [.tmp 2]⟩
theorem a_ref04_Bare_ok : fnAF Tryz.prog [] Tryz.f50 = some a_ref04_Bare := by kernel_rfl
theorem a_ref04_Bare_cb : callable Tryz.prog 50 = true := by kernel_rfl
def b_scalar_letter : ACode :=
 .seq (gQ [⟨gO, .mov 2 (.k (.bool false))⟩]) (.seq (gQ [gM 3 0, ⟨gO, gB 4 .geq (.s 3) (.k (.int .u8 97))⟩, gM 5 4, gN 5 true 6 0, ⟨some (5, true), .bin 7 .leq false (.s 6) (.k (.int .u8 122))⟩, ⟨gO, .pick 8 (.s 5) (.s 7) (.k (.bool false))⟩, gM 9 8, gN 9 false 10 0, ⟨some (9, false), .bin 11 .geq false (.s 10) (.k (.int .u8 65))⟩, gN 9 false 12 11, gN 12 true 13 0, ⟨some (12, true), .bin 14 .leq false (.s 13) (.k (.int .u8 90))⟩, ⟨some (9, false), .pick 15 (.s 12) (.s 14) (.k (.bool false))⟩, ⟨gO, .pick 16 (.s 9) (.k (.bool true)) (.s 15)⟩, gM 2 16]) .ret)
def a_scalar_letter : AFn := ⟨1, 17, b_scalar_letter, [.tmp 2]⟩
theorem a_scalar_letter_ok : fnAF Tryz.prog [] Tryz.f92 = some a_scalar_letter := by kernel_rfl
theorem a_scalar_letter_cb : callable Tryz.prog 92 = true := by kernel_rfl
def b_scalar_digit : ACode :=
 .seq (gQ [⟨gO, .mov 2 (.k (.bool false))⟩]) (.seq (gQ [gM 3 0, ⟨gO, gB 4 .geq (.s 3) (.k (.int .u8 48))⟩, gM 5 4, gN 5 true 6 0, ⟨some (5, true), .bin 7 .leq false (.s 6) (.k (.int .u8 57))⟩, ⟨gO, .pick 8 (.s 5) (.s 7) (.k (.bool false))⟩, gM 2 8]) .ret)
def a_scalar_digit : AFn := ⟨1, 9, b_scalar_digit, [.tmp 2]⟩
theorem a_scalar_digit_ok : fnAF Tryz.prog [] Tryz.f93 = some a_scalar_digit := by kernel_rfl
theorem a_scalar_digit_cb : callable Tryz.prog 93 = true := by kernel_rfl
def b_scalar_Bare : ACode :=
 .seq (gQ [⟨gO, .mov 2 (.k (.bool false))⟩]) (.seq (.seq (gQ [gM 5 0, gH 6 true 5, gJ 7 0]) (.block 0 (.loop (.seq (gQ [gV 8 .lss 7 6]) (.seq (.cond (.s 8) .skip (.exit 0)) (.seq (.block 1 (.seq (gQ [gM 9 7, gM 3 9]) (.seq (gQ [gM 10 0, gM 11 3, ⟨gO, .bidx 12 (.s 10) (.s 11)⟩, gM 4 12]) (.seq (gQ [gM 13 4, gC 14 92 [.s 13], ⟨gO, .un 15 .not (.s 14)⟩, gM 16 15, gN 16 true 17 3, ⟨some (16, true), .bin 18 .eql false (.s 17) (gI 0)⟩, gN 16 true 19 18, gN 19 false 20 4, ⟨some (19, false), .call (some 21) (.k (.fn 93 [])) [.s 20]⟩, ⟨some (19, false), .un 22 .not (.s 21)⟩, gN 19 false 23 22, gN 23 true 24 4, ⟨some (23, true), .call (some 25) (.k (.fn 94 [])) [gS ⟨#[95, 45, 46, 47]⟩, .s 24]⟩, ⟨some (23, true), .bin 26 .lss false (.s 25) (gI 0)⟩, ⟨some (19, false), .pick 27 (.s 23) (.s 26) (.k (.bool false))⟩, ⟨some (16, true), .pick 28 (.s 19) (.k (.bool true)) (.s 27)⟩, ⟨gO, .pick 29 (.s 16) (.s 28) (.k (.bool false))⟩]) (.cond (.s 29) (.seq (gQ [⟨gO, .mov 2 (.k (.bool false))⟩]) .ret) .skip))))) (.reg [gU 30 .add 7 1, gM 7 30]))))))) (.seq (.seq (gQ [gM 31 0]) (.block 2 (.seq (.seq (gQ [⟨gO, gB 33 .eql (.s 31) (gS ⟨#[]⟩)⟩, gM 32 33]) (.cond (.s 32) .skip (.seq (gQ [⟨gO, gB 34 .eql (.s 31) (gS ⟨#[110, 117, 108, 108]⟩)⟩, gM 32 34]) (.cond (.s 32) .skip (.seq (gQ [⟨gO, gB 35 .eql (.s 31) (gS ⟨#[116, 114, 117, 101]⟩)⟩, gM 32 35]) (.cond (.s 32) .skip (.reg [⟨gO, gB 36 .eql (.s 31) (gS ⟨#[102, 97, 108, 115, 101]⟩)⟩, gM 32 36]))))))) (.cond (.s 32) (.seq (gQ [⟨gO, .mov 2 (.k (.bool false))⟩]) .ret) .skip)))) (.seq (gQ [⟨gO, .mov 2 (.k (.bool true))⟩]) .ret)))
def a_scalar_Bare : AFn := ⟨1, 37, b_scalar_Bare, [.tmp 2]⟩
theorem a_scalar_Bare_ok : fnAF Tryz.prog [] Tryz.f51 = some a_scalar_Bare := by kernel_rfl
theorem a_scalar_Bare_cb : callable Tryz.prog 51 = true := by kernel_rfl
def b_tree_Text : ACode :=
 .seq (gQ [⟨gO, .mov 2 (.k (.bool false))⟩]) (.seq (.seq (gQ [gM 5 0, gH 6 true 5, gJ 7 0]) (.block 0 (.loop (.seq (gQ [gV 8 .lss 7 6]) (.seq (.cond (.s 8) .skip (.exit 0)) (.seq (.block 1 (.seq (gQ [gM 9 7, gM 3 9]) (.seq (gQ [gM 10 0, gM 11 3, ⟨gO, .bidx 12 (.s 10) (.s 11)⟩, gM 4 12]) (.seq (gQ [gM 13 4, ⟨gO, gB 14 .lss (.s 13) (.k (.int .u8 32))⟩, gM 15 14, gN 15 true 16 4, ⟨some (15, true), .bin 17 .neq false (.s 16) (.k (.int .u8 10))⟩, ⟨gO, .pick 18 (.s 15) (.s 17) (.k (.bool false))⟩, gM 19 18, gN 19 true 20 4, ⟨some (19, true), .bin 21 .neq false (.s 20) (.k (.int .u8 9))⟩, ⟨gO, .pick 22 (.s 19) (.s 21) (.k (.bool false))⟩, gM 23 22, gN 23 false 24 4, ⟨some (23, false), .bin 25 .gtr false (.s 24) (.k (.int .u8 126))⟩, ⟨gO, .pick 26 (.s 23) (.k (.bool true)) (.s 25)⟩]) (.cond (.s 26) (.seq (gQ [⟨gO, .mov 2 (.k (.bool false))⟩]) .ret) .skip))))) (.reg [gU 27 .add 7 1, gM 7 27]))))))) (.seq (gQ [gM 28 0, gH 29 true 28, gU 30 .leq 29 65536, gM 2 30]) .ret))
def a_tree_Text : AFn := ⟨1, 31, b_tree_Text, [.tmp 2]⟩
theorem a_tree_Text_ok : fnAF Tryz.prog [] Tryz.f38 = some a_tree_Text := by kernel_rfl
theorem a_tree_Text_cb : callable Tryz.prog 38 = true := by kernel_rfl
def b_tree_Str : ACode :=
 .seq (gQ [⟨gO, .alloc 2 gZ⟩]) (.seq (gQ [gM 3 0, ⟨gO, .build 4 gZ [(0, 1, gI 3), (3, 1, .s 3)]⟩, gT 6 2 4]) .ret)
def a_tree_Str : AFn := ⟨1, 5, b_tree_Str, [.cell 2 6 true]⟩
theorem a_tree_Str_ok : fnAF Tryz.prog [] Tryz.f40 = some a_tree_Str := by kernel_rfl
theorem a_tree_Str_cb : callable Tryz.prog 40 = true := by kernel_rfl
def b_tree_Null : ACode :=
 .seq (gQ [⟨gO, .alloc 0 gZ⟩]) (.seq (gQ [⟨gO, .build 1 gZ []⟩, gT 6 0 1]) .ret)
def a_tree_Null : AFn := ⟨0, 2, b_tree_Null, [.cell 0 6 true]⟩
theorem a_tree_Null_ok : fnAF Tryz.prog [] Tryz.f47 = some a_tree_Null := by kernel_rfl
theorem a_tree_Null_cb : callable Tryz.prog 47 = true := by kernel_rfl
def b_tree_Bool : ACode :=
 .seq (gQ [⟨gO, .alloc 2 gZ⟩]) (.seq (gQ [gM 3 0, ⟨gO, .build 4 gZ [(0, 1, gI 1), (1, 1, .s 3)]⟩, gT 6 2 4]) .ret)
def a_tree_Bool : AFn := ⟨1, 5, b_tree_Bool, [.cell 2 6 true]⟩
theorem a_tree_Bool_ok : fnAF Tryz.prog [] Tryz.f208 = some a_tree_Bool := by kernel_rfl
theorem a_tree_Bool_cb : callable Tryz.prog 208 = true := by kernel_rfl
def b_tree_List : ACode :=
 .seq (gQ [⟨gO, .alloc 2 gZ⟩]) (.seq (gQ [⟨gO, .build 6 gZ [(0, 1, gI 4)]⟩, ⟨gO, .alloc 3 gZ⟩, gT 6 3 6]) (.seq (.seq (gQ [gM 7 0, gH 8 false 7, gJ 9 0]) (.block 0 (.loop (.seq (gQ [gV 10 .lss 9 8]) (.seq (.cond (.s 10) .skip (.exit 0)) (.seq (.block 1 (.seq (gQ [gE 11 6 7 9, gA 12 6 11, ⟨gO, .alloc 5 gZ⟩, gT 6 5 12]) (.reg [gF 13 4 3, gL 14 13, gA 15 6 5, gC 16 73 [.s 15], ⟨gO, .bsl 17 1 6 gZ [(0, 6, .s 16)]⟩, ⟨gO, .app 18 6 88 (.s 14) (.s 17)⟩, gF 19 4 3, gT 1 19 18]))) (.reg [gU 20 .add 9 1, gM 9 20]))))))) (.seq (gQ [gA 21 6 3, gT 6 2 21]) .ret)))
def a_tree_List : AFn := ⟨1, 22, b_tree_List, [.cell 2 6 true]⟩
theorem a_tree_List_ok : fnAF Tryz.prog [] Tryz.f137 = some a_tree_List := by kernel_rfl
theorem a_tree_List_cb : callable Tryz.prog 137 = true := by kernel_rfl
def b_strings_TrimPrefix : ACode :=
 .seq (gQ [⟨gO, .mov 4 (gS ⟨#[]⟩)⟩]) (.seq (gQ [gM 5 0, gM 6 1, gC 7 114 [.s 5, .s 6], gM 4 7]) .ret)
def a_strings_TrimPrefix : AFn := ⟨2, 8, b_strings_TrimPrefix, [.tmp 4]⟩
theorem a_strings_TrimPrefix_ok : fnAF Tryz.prog [] Tryz.f76 = some a_strings_TrimPrefix := by kernel_rfl
theorem a_strings_TrimPrefix_cb : callable Tryz.prog 76 = true := by kernel_rfl
def b_stringslite_TrimPrefix : ACode :=
 .seq (gQ [⟨gO, .mov 4 (gS ⟨#[]⟩)⟩]) (.seq (.seq (gQ [gM 5 0, gM 6 1, gC 7 165 [.s 5, .s 6]]) (.cond (.s 7) (.seq (gQ [gM 8 0, gM 9 1, gH 10 true 9, ⟨gO, .sub 11 true 0 (.s 8) (some (.s 10)) none⟩, gM 4 11]) .ret) .skip)) (.seq (gQ [gM 12 0, gM 4 12]) .ret))
def a_stringslite_TrimPrefix : AFn := ⟨2, 13, b_stringslite_TrimPrefix, [.tmp 4]⟩
theorem a_stringslite_TrimPrefix_ok : fnAF Tryz.prog [] Tryz.f114 = some a_stringslite_TrimPrefix := by kernel_rfl
theorem a_stringslite_TrimPrefix_cb : callable Tryz.prog 114 = true := by kernel_rfl
def b_strings_Split : ACode :=
 .seq (gQ [⟨gO, .mov 4 (.k (.lst .nil 1 []))⟩]) (.seq (gQ [gM 5 0, gM 6 1, gC 7 113 [.s 5, .s 6, gI 0, .k (.int .i64 (-1))], gM 4 7]) .ret)
def a_strings_Split : AFn := ⟨2, 8, b_strings_Split, [.tmp 4]⟩
theorem a_strings_Split_ok : fnAF Tryz.prog [] Tryz.f75 = some a_strings_Split := by kernel_rfl
theorem a_strings_Split_cb : callable Tryz.prog 75 = true := by kernel_rfl
def b_strings_HasPrefix : ACode :=
 .seq (gQ [⟨gO, .mov 4 (.k (.bool false))⟩]) (.seq (gQ [gM 5 0, gM 6 1, gC 7 165 [.s 5, .s 6], gM 4 7]) .ret)
def a_strings_HasPrefix : AFn := ⟨2, 8, b_strings_HasPrefix, [.tmp 4]⟩
theorem a_strings_HasPrefix_ok : fnAF Tryz.prog [] Tryz.f134 = some a_strings_HasPrefix := by kernel_rfl
theorem a_strings_HasPrefix_cb : callable Tryz.prog 134 = true := by kernel_rfl
def b_stringslite_HasPrefix : ACode :=
 .seq (gQ [⟨gO, .mov 4 (.k (.bool false))⟩]) (.seq (gQ [gM 5 0, gH 6 true 5, gM 7 1, gH 8 true 7, gV 9 .geq 6 8, gM 10 9, gN 10 true 11 0, gN 10 true 12 1, ⟨some (10, true), .len 13 true (.s 12)⟩, ⟨some (10, true), .sub 14 true 0 (.s 11) none (some (.s 13))⟩, gN 10 true 15 1, ⟨some (10, true), .bin 16 .eql false (.s 14) (.s 15)⟩, ⟨gO, .pick 17 (.s 10) (.s 16) (.k (.bool false))⟩, gM 4 17]) .ret)
def a_stringslite_HasPrefix : AFn := ⟨2, 18, b_stringslite_HasPrefix, [.tmp 4]⟩
theorem a_stringslite_HasPrefix_ok : fnAF Tryz.prog [] Tryz.f165 = some a_stringslite_HasPrefix := by kernel_rfl
theorem a_stringslite_HasPrefix_cb : callable Tryz.prog 165 = true := by kernel_rfl
def b_strings_CutPrefix : ACode :=
 .seq (gQ [⟨gO, .mov 4 (gS ⟨#[]⟩)⟩, ⟨gO, .mov 5 (.k (.bool false))⟩]) (.seq (gQ [gM 6 0, gM 7 1, gC 8 222 [.s 6, .s 7], gX 9 0 8, gX 10 1 8, gM 4 9, gM 5 10]) .ret)
def a_strings_CutPrefix : AFn := ⟨2, 11, b_strings_CutPrefix, [.tmp 4, .tmp 5]⟩
theorem a_strings_CutPrefix_ok : fnAF Tryz.prog [] Tryz.f207 = some a_strings_CutPrefix := by kernel_rfl
theorem a_strings_CutPrefix_cb : callable Tryz.prog 207 = true := by kernel_rfl
def b_stringslite_CutPrefix : ACode :=
 .seq (gQ [⟨gO, .mov 4 (gS ⟨#[]⟩)⟩, ⟨gO, .mov 5 (.k (.bool false))⟩]) (.seq (.seq (gQ [gM 6 0, gM 7 1, gC 8 165 [.s 6, .s 7], ⟨gO, .un 9 .not (.s 8)⟩]) (.cond (.s 9) (.seq (gQ [gM 10 0, gM 4 10, ⟨gO, .mov 5 (.k (.bool false))⟩]) .ret) .skip)) (.seq (gQ [gM 11 0, gM 12 1, gH 13 true 12, ⟨gO, .sub 14 true 0 (.s 11) (some (.s 13)) none⟩, gM 4 14, ⟨gO, .mov 5 (.k (.bool true))⟩]) .ret))
def a_stringslite_CutPrefix : AFn := ⟨2, 15, b_stringslite_CutPrefix, [.tmp 4, .tmp 5]⟩
theorem a_stringslite_CutPrefix_ok : fnAF Tryz.prog [] Tryz.f222 = some a_stringslite_CutPrefix := by kernel_rfl
theorem a_stringslite_CutPrefix_cb : callable Tryz.prog 222 = true := by kernel_rfl
def b_strings_Cut : ACode :=
 .seq (gQ [⟨gO, .mov 4 (gS ⟨#[]⟩)⟩, ⟨gO, .mov 5 (gS ⟨#[]⟩)⟩, ⟨gO, .mov 6 (.k (.bool false))⟩]) (.seq (gQ [gM 7 0, gM 8 1, gC 9 221 [.s 7, .s 8], gX 10 0 9, gX 11 1 9, gX 12 2 9, gM 4 10, gM 5 11, gM 6 12]) .ret)
def a_strings_Cut : AFn := ⟨2, 13, b_strings_Cut, [.tmp 4, .tmp 5, .tmp 6]⟩
theorem a_strings_Cut_ok : fnAF Tryz.prog [] Tryz.f206 = some a_strings_Cut := by kernel_rfl
theorem a_strings_Cut_cb : callable Tryz.prog 206 = true := by kernel_rfl
def b_stringslite_Cut : ACode :=
 .seq (gQ [⟨gO, .mov 4 (gS ⟨#[]⟩)⟩, ⟨gO, .mov 5 (gS ⟨#[]⟩)⟩, ⟨gO, .mov 6 (.k (.bool false))⟩]) (.seq (.seq (gQ [gM 8 0, gM 9 1, gC 10 141 [.s 8, .s 9], gM 7 10]) (.seq (gQ [gM 11 7, gU 12 .geq 11 0]) (.cond (.s 12) (.seq (gQ [gM 13 0, gM 14 7, ⟨gO, .sub 15 true 0 (.s 13) none (some (.s 14))⟩, gM 16 0, gM 17 7, gM 18 1, gH 19 true 18, gV 20 .add 17 19, ⟨gO, .sub 21 true 0 (.s 16) (some (.s 20)) none⟩, gM 4 15, gM 5 21, ⟨gO, .mov 6 (.k (.bool true))⟩]) .ret) .skip))) (.seq (gQ [gM 22 0, gM 4 22, ⟨gO, .mov 5 (gS ⟨#[]⟩)⟩, ⟨gO, .mov 6 (.k (.bool false))⟩]) .ret))
def a_stringslite_Cut : AFn := ⟨2, 23, b_stringslite_Cut, [.tmp 4, .tmp 5, .tmp 6]⟩
theorem a_stringslite_Cut_ok : fnAF Tryz.prog [] Tryz.f221 = some a_stringslite_Cut := by kernel_rfl
theorem a_stringslite_Cut_cb : callable Tryz.prog 221 = true := by kernel_rfl
end Go.Proofs.YtbfiopoefbbknaaGreatDoor
namespace Go.Proofs.YtbfiopoefbbknaaGreatDoor
set_option maxRecDepth 100000
def b_tree_Check : ACode :=
 .seq (gQ [gP 1 0, gJ 2 0]) (.seq (.block 0 (.seq (gQ [gA 4 6 1, gC 5 67 [.s 4], gU 6 .gtr 5 16, gM 3 6]) (.cond (.s 3) (.seq (gQ [gJ 2 5]) .ret) (.seq (gQ [gA 8 6 1, gC 9 68 [.s 8], gU 10 .gtr 9 4096, gM 7 10]) (.cond (.s 7) (.seq (gQ [gJ 2 6]) .ret) .skip))))) (.seq (gQ [gA 11 6 1, gC 12 69 [.s 11], gM 2 12]) .ret))
def a_tree_Check : AFn := ⟨1, 13, b_tree_Check, [.tmp 2]⟩
theorem a_tree_Check_ok : fnAF Tryz.prog [] Tryz.f33 = some a_tree_Check := by kernel_rfl
theorem a_tree_Check_cb : callable Tryz.prog 33 = true := by kernel_rfl
def b_tree_Size : ACode :=
 .seq (gQ [gP 1 0, gJ 2 0]) (.seq (gQ [gJ 3 1]) (.seq (.seq (gQ [gF 8 4 1, gL 9 8, gH 10 false 9, gJ 11 0]) (.block 0 (.loop (.seq (gQ [gV 12 .lss 11 10]) (.seq (.cond (.s 12) .skip (.exit 0)) (.seq (.block 1 (.seq (gQ [gE 13 6 9 11, gA 14 6 13, ⟨gO, .alloc 5 gZ⟩, gT 6 5 14]) (.reg [gM 15 3, gA 16 6 5, gC 17 68 [.s 16], gV 18 .add 15 17, gM 3 18]))) (.reg [gU 19 .add 11 1, gM 11 19]))))))) (.seq (.seq (gQ [gF 20 5 1, gL 21 20, gH 22 false 21, gJ 23 0]) (.block 2 (.loop (.seq (gQ [gV 24 .lss 23 22]) (.seq (.cond (.s 24) .skip (.exit 2)) (.seq (.block 3 (.seq (gQ [gE 25 7 21 23, gA 26 7 25, ⟨gO, .alloc 7 [.str ⟨#[]⟩, .int .i64 0, .bool false, .int .i64 0, .str ⟨#[]⟩, .lst .nil 6 [], .lst .nil 7 []]⟩, gT 7 7 26]) (.reg [gM 27 3, gF 28 1 7, gA 29 6 28, gC 30 68 [.s 29], gV 31 .add 27 30, gM 3 31]))) (.reg [gU 32 .add 23 1, gM 23 32]))))))) (.seq (gQ [gM 33 3, gM 2 33]) .ret))))
def a_tree_Size : AFn := ⟨1, 34, b_tree_Size, [.tmp 2]⟩
theorem a_tree_Size_ok : fnAF Tryz.prog [] Tryz.f68 = some a_tree_Size := by kernel_rfl
theorem a_tree_Size_cb : callable Tryz.prog 68 = true := by kernel_rfl
def b_tree_Depth : ACode :=
 .seq (gQ [gP 1 0, gJ 2 0]) (.seq (gQ [gJ 3 0]) (.seq (.seq (gQ [gF 8 4 1, gL 9 8, gH 10 false 9, gJ 11 0]) (.block 0 (.loop (.seq (gQ [gV 12 .lss 11 10]) (.seq (.cond (.s 12) .skip (.exit 0)) (.seq (.block 1 (.seq (gQ [gE 13 6 9 11, gA 14 6 13, ⟨gO, .alloc 5 gZ⟩, gT 6 5 14]) (.reg [gM 15 3, gA 16 6 5, gC 17 67 [.s 16], ⟨gO, .mx 18 (.s 15) (.s 17)⟩, gM 3 18]))) (.reg [gU 19 .add 11 1, gM 11 19]))))))) (.seq (.seq (gQ [gF 20 5 1, gL 21 20, gH 22 false 21, gJ 23 0]) (.block 2 (.loop (.seq (gQ [gV 24 .lss 23 22]) (.seq (.cond (.s 24) .skip (.exit 2)) (.seq (.block 3 (.seq (gQ [gE 25 7 21 23, gA 26 7 25, ⟨gO, .alloc 7 [.str ⟨#[]⟩, .int .i64 0, .bool false, .int .i64 0, .str ⟨#[]⟩, .lst .nil 6 [], .lst .nil 7 []]⟩, gT 7 7 26]) (.reg [gM 27 3, gF 28 1 7, gA 29 6 28, gC 30 67 [.s 29], ⟨gO, .mx 31 (.s 27) (.s 30)⟩, gM 3 31]))) (.reg [gU 32 .add 23 1, gM 23 32]))))))) (.seq (gQ [gM 33 3, gU 34 .add 33 1, gM 2 34]) .ret))))
def a_tree_Depth : AFn := ⟨1, 35, b_tree_Depth, [.tmp 2]⟩
theorem a_tree_Depth_ok : fnAF Tryz.prog [] Tryz.f67 = some a_tree_Depth := by kernel_rfl
theorem a_tree_Depth_cb : callable Tryz.prog 67 = true := by kernel_rfl
def b_tree_parts : ACode :=
 .seq (gQ [gP 1 0, gJ 2 0]) (.seq (.block 0 (.seq (gQ [gA 10 6 1, gC 11 107 [.s 10], ⟨gO, .un 12 .not (.s 11)⟩, gM 9 12]) (.cond (.s 9) (.seq (gQ [gJ 2 8]) .ret) (.seq (gQ [gF 14 3 1, gL 15 14, gC 16 38 [.s 15], ⟨gO, .un 17 .not (.s 16)⟩, gM 13 17]) (.cond (.s 13) (.seq (gQ [gJ 2 10]) .ret) .skip))))) (.seq (.seq (gQ [gF 18 4 1, gL 19 18, gH 20 false 19, gJ 21 0]) (.block 1 (.loop (.seq (gQ [gV 22 .lss 21 20]) (.seq (.cond (.s 22) .skip (.exit 1)) (.seq (.block 2 (.seq (gQ [gE 23 6 19 21, gA 24 6 23, ⟨gO, .alloc 4 gZ⟩, gT 6 4 24]) (.seq (gQ [gA 25 6 4, gC 26 69 [.s 25], gM 5 26]) (.seq (gQ [gM 27 5, gU 28 .neq 27 0]) (.cond (.s 28) (.seq (gQ [gM 29 5, gM 2 29]) .ret) .skip))))) (.reg [gU 30 .add 21 1, gM 21 30]))))))) (.seq (.seq (gQ [gF 31 5 1, gL 32 31, gH 33 false 32, gJ 34 0]) (.block 3 (.loop (.seq (gQ [gV 35 .lss 34 33]) (.seq (.cond (.s 35) .skip (.exit 3)) (.seq (.block 4 (.seq (gQ [gM 36 34, gE 37 7 32 34, gA 38 7 37, ⟨gO, .alloc 7 [.str ⟨#[]⟩, .int .i64 0, .bool false, .int .i64 0, .str ⟨#[]⟩, .lst .nil 6 [], .lst .nil 7 []]⟩, gM 6 36, gT 7 7 38]) (.seq (.block 5 (.seq (gQ [gF 40 0 7, gL 41 40, gC 42 108 [.s 41], ⟨gO, .un 43 .not (.s 42)⟩, gM 39 43]) (.cond (.s 39) (.seq (gQ [gJ 2 7]) .ret) (.seq (gQ [gM 45 6, gU 46 .gtr 45 0, gM 47 46, ⟨some (47, true), .off 48 5 (.s 1)⟩, ⟨some (47, true), .ld 49 1 false (.s 48)⟩, gN 47 true 50 6, ⟨some (47, true), .bin 51 .sub false (.s 50) (gI 1)⟩, ⟨some (47, true), .idx 52 7 (.s 49) (.s 51)⟩, ⟨some (47, true), .off 53 0 (.s 52)⟩, ⟨some (47, true), .ld 54 1 false (.s 53)⟩, ⟨some (47, true), .off 55 0 (.s 7)⟩, ⟨some (47, true), .ld 56 1 false (.s 55)⟩, ⟨some (47, true), .bin 57 .geq false (.s 54) (.s 56)⟩, ⟨gO, .pick 58 (.s 47) (.s 57) (.k (.bool false))⟩, gM 44 58]) (.cond (.s 44) (.seq (gQ [gJ 2 13]) .ret) .skip))))) (.seq (gQ [gF 59 1 7, gA 60 6 59, gC 61 69 [.s 60], gM 8 61]) (.seq (gQ [gM 62 8, gU 63 .neq 62 0]) (.cond (.s 63) (.seq (gQ [gM 64 8, gM 2 64]) .ret) .skip)))))) (.reg [gU 65 .add 34 1, gM 34 65]))))))) (.seq (gQ [gJ 2 0]) .ret))))
def a_tree_parts : AFn := ⟨1, 66, b_tree_parts, [.tmp 2]⟩
theorem a_tree_parts_ok : fnAF Tryz.prog [] Tryz.f69 = some a_tree_parts := by kernel_rfl
theorem a_tree_parts_cb : callable Tryz.prog 69 = true := by kernel_rfl
def b_tree_Key : ACode :=
 .seq (gQ [⟨gO, .mov 2 (.k (.bool false))⟩]) (.seq (gQ [gM 3 0, ⟨gO, gB 4 .neq (.s 3) (gS ⟨#[]⟩)⟩, gM 5 4, gN 5 true 6 0, ⟨some (5, true), .len 7 true (.s 6)⟩, ⟨some (5, true), .bin 8 .leq false (.s 7) (gI 256)⟩, ⟨gO, .pick 9 (.s 5) (.s 8) (.k (.bool false))⟩, gM 10 9, gN 10 true 11 0, ⟨some (10, true), .call (some 12) (.k (.fn 38 [])) [.s 11]⟩, ⟨gO, .pick 13 (.s 10) (.s 12) (.k (.bool false))⟩, gM 14 13, gN 14 true 15 0, ⟨some (14, true), .call (some 16) (.k (.fn 52 [])) [.s 15, gS ⟨#[10]⟩]⟩, ⟨some (14, true), .un 17 .not (.s 16)⟩, ⟨gO, .pick 18 (.s 14) (.s 17) (.k (.bool false))⟩, gM 19 18, gN 19 true 20 0, ⟨some (19, true), .call (some 21) (.k (.fn 52 [])) [.s 20, gS ⟨#[9]⟩]⟩, ⟨some (19, true), .un 22 .not (.s 21)⟩, ⟨gO, .pick 23 (.s 19) (.s 22) (.k (.bool false))⟩, gM 2 23]) .ret)
def a_tree_Key : AFn := ⟨1, 24, b_tree_Key, [.tmp 2]⟩
theorem a_tree_Key_ok : fnAF Tryz.prog [] Tryz.f108 = some a_tree_Key := by kernel_rfl
theorem a_tree_Key_cb : callable Tryz.prog 108 = true := by kernel_rfl
def b_scalar_Unquote : ACode :=
 .seq (gQ [⟨gO, .mov 2 (gS ⟨#[]⟩)⟩, ⟨gO, .mov 3 (gS ⟨#[]⟩)⟩, gJ 4 0]) (.seq (.seq (gQ [gM 5 0, ⟨gO, gB 6 .eql (.s 5) (gS ⟨#[]⟩)⟩]) (.cond (.s 6) (.seq (gQ [⟨gO, .mov 2 (gS ⟨#[]⟩)⟩, ⟨gO, .mov 3 (gS ⟨#[]⟩)⟩, gJ 4 11]) .ret) .skip)) (.seq (.seq (gQ [gM 7 0, ⟨gO, .bidx 8 (.s 7) (gI 0)⟩]) (.block 0 (.seq (gQ [⟨gO, gB 10 .eql (.s 8) (.k (.int .u8 34))⟩, gM 9 10]) (.cond (.s 9) (.seq (gQ [gM 11 0, gC 12 174 [.s 11], gX 13 0 12, gX 14 1 12, gX 15 2 12, gM 2 13, gM 3 14, gM 4 15]) .ret) (.seq (gQ [⟨gO, gB 17 .eql (.s 8) (.k (.int .u8 39))⟩, gM 16 17]) (.cond (.s 16) (.seq (gQ [gM 18 0, gC 19 175 [.s 18], gX 20 0 19, gX 21 1 19, gX 22 2 19, gM 2 20, gM 3 21, gM 4 22]) .ret) .skip)))))) (.seq (gQ [⟨gO, .mov 2 (gS ⟨#[]⟩)⟩, ⟨gO, .mov 3 (gS ⟨#[]⟩)⟩, gJ 4 11]) .ret)))
def a_scalar_Unquote : AFn := ⟨1, 23, b_scalar_Unquote, [.tmp 2, .tmp 3, .tmp 4]⟩
theorem a_scalar_Unquote_ok : fnAF Tryz.prog [] Tryz.f130 = some a_scalar_Unquote := by kernel_rfl
theorem a_scalar_Unquote_cb : callable Tryz.prog 130 = true := by kernel_rfl
theorem a_scalar_double_cb : callable Tryz.prog 174 = true := by kernel_rfl
theorem a_scalar_single_cb : callable Tryz.prog 175 = true := by kernel_rfl
def b_scalar_Parse : ACode :=
 .seq (gQ [⟨gO, .alloc 2 gZ⟩, gJ 3 0]) (.seq (.seq (gQ [gM 6 0]) (.block 0 (.seq (.seq (gQ [⟨gO, gB 8 .eql (.s 6) (gS ⟨#[]⟩)⟩, gM 7 8]) (.cond (.s 7) .skip (.seq (gQ [⟨gO, gB 9 .eql (.s 6) (gS ⟨#[126]⟩)⟩, gM 7 9]) (.cond (.s 7) .skip (.reg [⟨gO, gB 10 .eql (.s 6) (gS ⟨#[110, 117, 108, 108]⟩)⟩, gM 7 10]))))) (.cond (.s 7) (.seq (gQ [gC 11 47 [], gT 6 2 11, gJ 3 0]) .ret) (.seq (.seq (gQ [⟨gO, gB 13 .eql (.s 6) (gS ⟨#[116, 114, 117, 101]⟩)⟩, gM 12 13]) (.cond (.s 12) .skip (.reg [⟨gO, gB 14 .eql (.s 6) (gS ⟨#[102, 97, 108, 115, 101]⟩)⟩, gM 12 14]))) (.cond (.s 12) (.seq (gQ [gM 15 0, ⟨gO, gB 16 .eql (.s 15) (gS ⟨#[116, 114, 117, 101]⟩)⟩, gC 17 208 [.s 16], gT 6 2 17, gJ 3 0]) .ret) .skip)))))) (.seq (.seq (gQ [gM 18 0, gC 19 209 [.s 18], ⟨gO, .un 20 .not (.s 19)⟩]) (.cond (.s 20) (.seq (gQ [gM 21 0, gC 22 40 [.s 21], gT 6 2 22, gJ 3 0]) .ret) .skip)) (.seq (gQ [gM 24 0, gC 25 210 [.s 24, gI 10, gI 64], gM 23 25, gX 26 0 23, gX 27 1 23, gM 4 26, gM 5 27]) (.seq (.seq (gQ [gM 28 5, ⟨gO, .eqs 29 true 104 (.s 28) (.k (.raw Value.nilIface))⟩]) (.cond (.s 29) (.seq (gQ [⟨gO, .build 30 gZ []⟩, gT 6 2 30, gJ 3 9]) .ret) .skip)) (.seq (gQ [gM 31 4, gC 32 58 [.s 31], gT 6 2 32, gJ 3 0]) .ret)))))
def a_scalar_Parse : AFn := ⟨1, 33, b_scalar_Parse, [.cell 2 6 true, .tmp 3]⟩
theorem a_scalar_Parse_ok : fnAF Tryz.prog [] Tryz.f180 = some a_scalar_Parse := by kernel_rfl
theorem a_scalar_Parse_cb : callable Tryz.prog 180 = true := by kernel_rfl
def b_scalar_number : ACode :=
 .seq (gQ [⟨gO, .mov 2 (.k (.bool false))⟩]) (.seq (gQ [gM 4 0, ⟨gO, .call (some 5) (.k (.fn 76 [])) [.s 4, gS ⟨#[45]⟩]⟩, gM 0 5]) (.seq (.seq (gQ [gM 6 0, gH 7 true 6, gJ 8 0]) (.block 0 (.loop (.seq (gQ [gV 9 .lss 8 7]) (.seq (.cond (.s 9) .skip (.exit 0)) (.seq (.block 1 (.seq (gQ [gM 10 8, gM 3 10]) (.seq (gQ [gM 11 0, gM 12 3, ⟨gO, .bidx 13 (.s 11) (.s 12)⟩, gC 14 93 [.s 13], ⟨gO, .un 15 .not (.s 14)⟩]) (.cond (.s 15) (.seq (gQ [⟨gO, .mov 2 (.k (.bool false))⟩]) .ret) .skip)))) (.reg [gU 16 .add 8 1, gM 8 16]))))))) (.seq (gQ [gM 17 0, ⟨gO, gB 18 .neq (.s 17) (gS ⟨#[]⟩)⟩, gM 2 18]) .ret)))
def a_scalar_number : AFn := ⟨1, 19, b_scalar_number, [.tmp 2]⟩
theorem a_scalar_number_ok : fnAF Tryz.prog [] Tryz.f209 = some a_scalar_number := by kernel_rfl
theorem a_scalar_number_cb : callable Tryz.prog 209 = true := by kernel_rfl
end Go.Proofs.YtbfiopoefbbknaaGreatDoor
namespace Go.Proofs.YtbfiopoefbbknaaGreatDoor
set_option maxRecDepth 100000
def b_ref01_Text : ACode :=
 .seq (gQ [⟨gO, .mov 2 (.k (.bool false))⟩]) (.seq (.seq (gQ [gJ 3 0]) (.block 0 (.loop (.seq (.seq (gQ [gM 4 3, gM 5 0, gH 6 true 5, gV 7 .lss 4 6]) (.cond (.s 7) .skip (.exit 0))) (.seq (.block 1 (.seq (gQ [gM 10 0, gM 11 3, ⟨gO, .bidx 12 (.s 10) (.s 11)⟩, ⟨gO, gB 13 .lss (.s 12) (.k (.int .u8 32))⟩, gM 14 13, gN 14 false 15 0, gN 14 false 16 3, ⟨some (14, false), .bidx 17 (.s 15) (.s 16)⟩, ⟨some (14, false), .bin 18 .gtr false (.s 17) (.k (.int .u8 126))⟩, ⟨gO, .pick 19 (.s 14) (.k (.bool true)) (.s 18)⟩, gM 20 19, gN 20 true 21 0, gN 20 true 22 3, ⟨some (20, true), .bidx 23 (.s 21) (.s 22)⟩, ⟨some (20, true), .bin 24 .neq false (.s 23) (.k (.int .u8 9))⟩, ⟨gO, .pick 25 (.s 20) (.s 24) (.k (.bool false))⟩, gM 26 25, gN 26 true 27 0, gN 26 true 28 3, ⟨some (26, true), .bidx 29 (.s 27) (.s 28)⟩, ⟨some (26, true), .bin 30 .neq false (.s 29) (.k (.int .u8 10))⟩, ⟨gO, .pick 31 (.s 26) (.s 30) (.k (.bool false))⟩]) (.cond (.s 31) (.seq (gQ [⟨gO, .mov 2 (.k (.bool false))⟩]) .ret) .skip))) (.reg [gM 8 3, gU 9 .add 8 1, gM 3 9])))))) (.seq (gQ [gM 32 0, gH 33 true 32, gU 34 .leq 33 65536, gM 2 34]) .ret))
def a_ref01_Text : AFn := ⟨1, 35, b_ref01_Text, [.tmp 2]⟩
theorem a_ref01_Text_ok : fnAF Tryz.prog [] Tryz.f42 = some a_ref01_Text := by kernel_rfl
theorem a_ref01_Text_cb : callable Tryz.prog 42 = true := by kernel_rfl
def b_ref01_Same : ACode :=
 .seq (gQ [gP 2 0, gP 3 1, ⟨gO, .mov 4 (.k (.bool false))⟩]) (.seq (.seq (gQ [gF 7 0 2, gL 8 7, gF 9 0 3, gL 10 9, gV 11 .neq 8 10, gM 12 11, ⟨some (12, false), .off 13 1 (.s 2)⟩, ⟨some (12, false), .ld 14 1 false (.s 13)⟩, ⟨some (12, false), .off 15 1 (.s 3)⟩, ⟨some (12, false), .ld 16 1 false (.s 15)⟩, ⟨some (12, false), .bin 17 .neq true (.s 14) (.s 16)⟩, ⟨gO, .pick 18 (.s 12) (.k (.bool true)) (.s 17)⟩, gM 19 18, ⟨some (19, false), .off 20 2 (.s 2)⟩, ⟨some (19, false), .ld 21 1 false (.s 20)⟩, ⟨some (19, false), .off 22 2 (.s 3)⟩, ⟨some (19, false), .ld 23 1 false (.s 22)⟩, ⟨some (19, false), .bin 24 .neq false (.s 21) (.s 23)⟩, ⟨gO, .pick 25 (.s 19) (.k (.bool true)) (.s 24)⟩, gM 26 25, ⟨some (26, false), .off 27 3 (.s 2)⟩, ⟨some (26, false), .ld 28 1 false (.s 27)⟩, ⟨some (26, false), .off 29 3 (.s 3)⟩, ⟨some (26, false), .ld 30 1 false (.s 29)⟩, ⟨some (26, false), .bin 31 .neq false (.s 28) (.s 30)⟩, ⟨gO, .pick 32 (.s 26) (.k (.bool true)) (.s 31)⟩, gM 33 32, ⟨some (33, false), .off 34 4 (.s 2)⟩, ⟨some (33, false), .ld 35 1 false (.s 34)⟩, ⟨some (33, false), .len 36 false (.s 35)⟩, ⟨some (33, false), .off 37 4 (.s 3)⟩, ⟨some (33, false), .ld 38 1 false (.s 37)⟩, ⟨some (33, false), .len 39 false (.s 38)⟩, ⟨some (33, false), .bin 40 .neq false (.s 36) (.s 39)⟩, ⟨gO, .pick 41 (.s 33) (.k (.bool true)) (.s 40)⟩, gM 42 41, ⟨some (42, false), .off 43 5 (.s 2)⟩, ⟨some (42, false), .ld 44 1 false (.s 43)⟩, ⟨some (42, false), .len 45 false (.s 44)⟩, ⟨some (42, false), .off 46 5 (.s 3)⟩, ⟨some (42, false), .ld 47 1 false (.s 46)⟩, ⟨some (42, false), .len 48 false (.s 47)⟩, ⟨some (42, false), .bin 49 .neq false (.s 45) (.s 48)⟩, ⟨gO, .pick 50 (.s 42) (.k (.bool true)) (.s 49)⟩]) (.cond (.s 50) (.seq (gQ [⟨gO, .mov 4 (.k (.bool false))⟩]) .ret) .skip)) (.seq (.seq (gQ [gJ 5 0]) (.block 0 (.loop (.seq (.seq (gQ [gM 51 5, gF 52 4 2, gL 53 52, gH 54 false 53, gV 55 .lss 51 54]) (.cond (.s 55) .skip (.exit 0))) (.seq (.block 1 (.seq (gQ [gF 58 4 2, gL 59 58, gM 60 5, gE 61 6 59 60, gA 62 6 61, gF 63 4 3, gL 64 63, gM 65 5, gE 66 6 64 65, gA 67 6 66, gC 68 31 [.s 62, .s 67], ⟨gO, .un 69 .not (.s 68)⟩]) (.cond (.s 69) (.seq (gQ [⟨gO, .mov 4 (.k (.bool false))⟩]) .ret) .skip))) (.reg [gM 56 5, gU 57 .add 56 1, gM 5 57])))))) (.seq (.seq (gQ [gJ 6 0]) (.block 2 (.loop (.seq (.seq (gQ [gM 70 6, gF 71 5 2, gL 72 71, gH 73 false 72, gV 74 .lss 70 73]) (.cond (.s 74) .skip (.exit 2))) (.seq (.block 3 (.seq (gQ [gF 77 5 2, gL 78 77, gM 79 6, gE 80 7 78 79, gF 81 0 80, gL 82 81, gF 83 5 3, gL 84 83, gM 85 6, gE 86 7 84 85, gF 87 0 86, gL 88 87, gV 89 .neq 82 88, gM 90 89, ⟨some (90, false), .off 91 5 (.s 2)⟩, ⟨some (90, false), .ld 92 1 false (.s 91)⟩, gN 90 false 93 6, ⟨some (90, false), .idx 94 7 (.s 92) (.s 93)⟩, ⟨some (90, false), .off 95 1 (.s 94)⟩, ⟨some (90, false), .ld 96 6 true (.s 95)⟩, ⟨some (90, false), .off 97 5 (.s 3)⟩, ⟨some (90, false), .ld 98 1 false (.s 97)⟩, gN 90 false 99 6, ⟨some (90, false), .idx 100 7 (.s 98) (.s 99)⟩, ⟨some (90, false), .off 101 1 (.s 100)⟩, ⟨some (90, false), .ld 102 6 true (.s 101)⟩, ⟨some (90, false), .call (some 103) (.k (.fn 31 [])) [.s 96, .s 102]⟩, ⟨some (90, false), .un 104 .not (.s 103)⟩, ⟨gO, .pick 105 (.s 90) (.k (.bool true)) (.s 104)⟩]) (.cond (.s 105) (.seq (gQ [⟨gO, .mov 4 (.k (.bool false))⟩]) .ret) .skip))) (.reg [gM 75 6, gU 76 .add 75 1, gM 6 76])))))) (.seq (gQ [⟨gO, .mov 4 (.k (.bool true))⟩]) .ret))))
def a_ref01_Same : AFn := ⟨2, 106, b_ref01_Same, [.tmp 4]⟩
theorem a_ref01_Same_ok : fnAF Tryz.prog [] Tryz.f31 = some a_ref01_Same := by kernel_rfl
theorem a_ref01_Same_cb : callable Tryz.prog 31 = true := by kernel_rfl
def b_ref01_Size : ACode :=
 .seq (gQ [gP 1 0, gJ 2 0]) (.seq (gQ [gJ 3 1]) (.seq (.seq (gQ [gJ 4 0]) (.block 0 (.loop (.seq (.seq (gQ [gM 6 4, gF 7 4 1, gL 8 7, gH 9 false 8, gV 10 .lss 6 9]) (.cond (.s 10) .skip (.exit 0))) (.seq (.block 1 (.reg [gM 13 3, gF 14 4 1, gL 15 14, gM 16 4, gE 17 6 15 16, gA 18 6 17, gC 19 145 [.s 18], gV 20 .add 13 19, gM 3 20])) (.reg [gM 11 4, gU 12 .add 11 1, gM 4 12])))))) (.seq (.seq (gQ [gJ 5 0]) (.block 2 (.loop (.seq (.seq (gQ [gM 21 5, gF 22 5 1, gL 23 22, gH 24 false 23, gV 25 .lss 21 24]) (.cond (.s 25) .skip (.exit 2))) (.seq (.block 3 (.reg [gM 28 3, gF 29 5 1, gL 30 29, gM 31 5, gE 32 7 30 31, gF 33 1 32, gA 34 6 33, gC 35 145 [.s 34], gV 36 .add 28 35, gM 3 36])) (.reg [gM 26 5, gU 27 .add 26 1, gM 5 27])))))) (.seq (gQ [gM 37 3, gM 2 37]) .ret))))
def a_ref01_Size : AFn := ⟨1, 38, b_ref01_Size, [.tmp 2]⟩
theorem a_ref01_Size_ok : fnAF Tryz.prog [] Tryz.f145 = some a_ref01_Size := by kernel_rfl
theorem a_ref01_Size_cb : callable Tryz.prog 145 = true := by kernel_rfl
def b_ref01_Depth : ACode :=
 .seq (gQ [gP 1 0, gJ 2 0]) (.seq (gQ [gJ 3 0]) (.seq (.seq (gQ [gJ 4 0]) (.block 0 (.loop (.seq (.seq (gQ [gM 8 4, gF 9 4 1, gL 10 9, gH 11 false 10, gV 12 .lss 8 11]) (.cond (.s 12) .skip (.exit 0))) (.seq (.block 1 (.seq (gQ [gF 15 4 1, gL 16 15, gM 17 4, gE 18 6 16 17, gA 19 6 18, gC 20 144 [.s 19], gM 5 20]) (.seq (gQ [gM 21 5, gM 22 3, gV 23 .gtr 21 22]) (.cond (.s 23) (.reg [gM 24 5, gM 3 24]) .skip)))) (.reg [gM 13 4, gU 14 .add 13 1, gM 4 14])))))) (.seq (.seq (gQ [gJ 6 0]) (.block 2 (.loop (.seq (.seq (gQ [gM 25 6, gF 26 5 1, gL 27 26, gH 28 false 27, gV 29 .lss 25 28]) (.cond (.s 29) .skip (.exit 2))) (.seq (.block 3 (.seq (gQ [gF 32 5 1, gL 33 32, gM 34 6, gE 35 7 33 34, gF 36 1 35, gA 37 6 36, gC 38 144 [.s 37], gM 7 38]) (.seq (gQ [gM 39 7, gM 40 3, gV 41 .gtr 39 40]) (.cond (.s 41) (.reg [gM 42 7, gM 3 42]) .skip)))) (.reg [gM 30 6, gU 31 .add 30 1, gM 6 31])))))) (.seq (gQ [gM 43 3, gU 44 .add 43 1, gM 2 44]) .ret))))
def a_ref01_Depth : AFn := ⟨1, 45, b_ref01_Depth, [.tmp 2]⟩
theorem a_ref01_Depth_ok : fnAF Tryz.prog [] Tryz.f144 = some a_ref01_Depth := by kernel_rfl
theorem a_ref01_Depth_cb : callable Tryz.prog 144 = true := by kernel_rfl
def b_ref01_Key : ACode :=
 .seq (gQ [⟨gO, .mov 2 (.k (.bool false))⟩]) (.seq (.seq (gQ [gJ 3 0]) (.block 0 (.loop (.seq (.seq (gQ [gM 4 3, gM 5 0, gH 6 true 5, gV 7 .lss 4 6]) (.cond (.s 7) .skip (.exit 0))) (.seq (.block 1 (.seq (gQ [gM 10 0, gM 11 3, ⟨gO, .bidx 12 (.s 10) (.s 11)⟩, ⟨gO, gB 13 .lss (.s 12) (.k (.int .u8 32))⟩, gM 14 13, gN 14 false 15 0, gN 14 false 16 3, ⟨some (14, false), .bidx 17 (.s 15) (.s 16)⟩, ⟨some (14, false), .bin 18 .gtr false (.s 17) (.k (.int .u8 126))⟩, ⟨gO, .pick 19 (.s 14) (.k (.bool true)) (.s 18)⟩]) (.cond (.s 19) (.seq (gQ [⟨gO, .mov 2 (.k (.bool false))⟩]) .ret) .skip))) (.reg [gM 8 3, gU 9 .add 8 1, gM 3 9])))))) (.seq (gQ [gM 20 0, gH 21 true 20, gU 22 .geq 21 1, gM 23 22, gN 23 true 24 0, ⟨some (23, true), .len 25 true (.s 24)⟩, ⟨some (23, true), .bin 26 .leq false (.s 25) (gI 256)⟩, ⟨gO, .pick 27 (.s 23) (.s 26) (.k (.bool false))⟩, gM 2 27]) .ret))
def a_ref01_Key : AFn := ⟨1, 28, b_ref01_Key, [.tmp 2]⟩
theorem a_ref01_Key_ok : fnAF Tryz.prog [] Tryz.f186 = some a_ref01_Key := by kernel_rfl
theorem a_ref01_Key_cb : callable Tryz.prog 186 = true := by kernel_rfl
def b_ref01_parts : ACode :=
 .seq (gQ [gP 1 0, gJ 2 0]) (.seq (.seq (gQ [gF 7 0 1, gL 8 7, gU 9 .lss 8 0, gM 10 9, ⟨some (10, false), .off 11 0 (.s 1)⟩, ⟨some (10, false), .ld 12 1 false (.s 11)⟩, ⟨some (10, false), .bin 13 .gtr false (.s 12) (gI 5)⟩, ⟨gO, .pick 14 (.s 10) (.k (.bool true)) (.s 13)⟩, gM 15 14, ⟨some (15, false), .off 16 0 (.s 1)⟩, ⟨some (15, false), .ld 17 1 false (.s 16)⟩, ⟨some (15, false), .bin 18 .neq false (.s 17) (gI 1)⟩, gN 15 false 19 18, ⟨some (19, true), .off 20 1 (.s 1)⟩, ⟨some (19, true), .ld 21 1 false (.s 20)⟩, ⟨some (15, false), .pick 22 (.s 19) (.s 21) (.k (.bool false))⟩, ⟨gO, .pick 23 (.s 15) (.k (.bool true)) (.s 22)⟩, gM 24 23, ⟨some (24, false), .off 25 0 (.s 1)⟩, ⟨some (24, false), .ld 26 1 false (.s 25)⟩, ⟨some (24, false), .bin 27 .neq false (.s 26) (gI 2)⟩, gN 24 false 28 27, ⟨some (28, true), .off 29 2 (.s 1)⟩, ⟨some (28, true), .ld 30 1 false (.s 29)⟩, ⟨some (28, true), .bin 31 .neq false (.s 30) (gI 0)⟩, ⟨some (24, false), .pick 32 (.s 28) (.s 31) (.k (.bool false))⟩, ⟨gO, .pick 33 (.s 24) (.k (.bool true)) (.s 32)⟩, gM 34 33, ⟨some (34, false), .off 35 0 (.s 1)⟩, ⟨some (34, false), .ld 36 1 false (.s 35)⟩, ⟨some (34, false), .bin 37 .neq false (.s 36) (gI 3)⟩, gN 34 false 38 37, ⟨some (38, true), .off 39 3 (.s 1)⟩, ⟨some (38, true), .ld 40 1 false (.s 39)⟩, ⟨some (38, true), .bin 41 .neq false (.s 40) (gS ⟨#[]⟩)⟩, ⟨some (34, false), .pick 42 (.s 38) (.s 41) (.k (.bool false))⟩, ⟨gO, .pick 43 (.s 34) (.k (.bool true)) (.s 42)⟩, gM 44 43, ⟨some (44, false), .off 45 0 (.s 1)⟩, ⟨some (44, false), .ld 46 1 false (.s 45)⟩, ⟨some (44, false), .bin 47 .neq false (.s 46) (gI 4)⟩, gN 44 false 48 47, ⟨some (48, true), .off 49 4 (.s 1)⟩, ⟨some (48, true), .ld 50 1 false (.s 49)⟩, ⟨some (48, true), .len 51 false (.s 50)⟩, ⟨some (48, true), .bin 52 .gtr false (.s 51) (gI 0)⟩, ⟨some (44, false), .pick 53 (.s 48) (.s 52) (.k (.bool false))⟩, ⟨gO, .pick 54 (.s 44) (.k (.bool true)) (.s 53)⟩, gM 55 54, ⟨some (55, false), .off 56 0 (.s 1)⟩, ⟨some (55, false), .ld 57 1 false (.s 56)⟩, ⟨some (55, false), .bin 58 .neq false (.s 57) (gI 5)⟩, gN 55 false 59 58, ⟨some (59, true), .off 60 5 (.s 1)⟩, ⟨some (59, true), .ld 61 1 false (.s 60)⟩, ⟨some (59, true), .len 62 false (.s 61)⟩, ⟨some (59, true), .bin 63 .gtr false (.s 62) (gI 0)⟩, ⟨some (55, false), .pick 64 (.s 59) (.s 63) (.k (.bool false))⟩, ⟨gO, .pick 65 (.s 55) (.k (.bool true)) (.s 64)⟩]) (.cond (.s 65) (.seq (gQ [gJ 2 8]) .ret) .skip)) (.seq (.seq (gQ [gF 66 3 1, gL 67 66, gC 68 42 [.s 67], ⟨gO, .un 69 .not (.s 68)⟩]) (.cond (.s 69) (.seq (gQ [gJ 2 10]) .ret) .skip)) (.seq (.seq (gQ [gJ 3 0]) (.block 0 (.loop (.seq (.seq (gQ [gM 70 3, gF 71 4 1, gL 72 71, gH 73 false 72, gV 74 .lss 70 73]) (.cond (.s 74) .skip (.exit 0))) (.seq (.block 1 (.seq (gQ [gF 77 4 1, gL 78 77, gM 79 3, gE 80 6 78 79, gA 81 6 80, gC 82 146 [.s 81], gM 4 82]) (.seq (gQ [gM 83 4, gU 84 .neq 83 0]) (.cond (.s 84) (.seq (gQ [gM 85 4, gM 2 85]) .ret) .skip)))) (.reg [gM 75 3, gU 76 .add 75 1, gM 3 76])))))) (.seq (.seq (gQ [gJ 5 0]) (.block 2 (.loop (.seq (.seq (gQ [gM 86 5, gF 87 5 1, gL 88 87, gH 89 false 88, gV 90 .lss 86 89]) (.cond (.s 90) .skip (.exit 2))) (.seq (.block 3 (.seq (.seq (gQ [gF 93 5 1, gL 94 93, gM 95 5, gE 96 7 94 95, gF 97 0 96, gL 98 97, gC 99 186 [.s 98], ⟨gO, .un 100 .not (.s 99)⟩]) (.cond (.s 100) (.seq (gQ [gJ 2 7]) .ret) .skip)) (.seq (.seq (gQ [gM 101 5, gU 102 .gtr 101 0, gM 103 102, ⟨some (103, true), .off 104 5 (.s 1)⟩, ⟨some (103, true), .ld 105 1 false (.s 104)⟩, gN 103 true 106 5, ⟨some (103, true), .idx 107 7 (.s 105) (.s 106)⟩, ⟨some (103, true), .off 108 0 (.s 107)⟩, ⟨some (103, true), .ld 109 1 false (.s 108)⟩, ⟨some (103, true), .off 110 5 (.s 1)⟩, ⟨some (103, true), .ld 111 1 false (.s 110)⟩, gN 103 true 112 5, ⟨some (103, true), .bin 113 .sub false (.s 112) (gI 1)⟩, ⟨some (103, true), .idx 114 7 (.s 111) (.s 113)⟩, ⟨some (103, true), .off 115 0 (.s 114)⟩, ⟨some (103, true), .ld 116 1 false (.s 115)⟩, ⟨some (103, true), .bin 117 .leq false (.s 109) (.s 116)⟩, ⟨gO, .pick 118 (.s 103) (.s 117) (.k (.bool false))⟩]) (.cond (.s 118) (.seq (gQ [gJ 2 13]) .ret) .skip)) (.seq (gQ [gF 119 5 1, gL 120 119, gM 121 5, gE 122 7 120 121, gF 123 1 122, gA 124 6 123, gC 125 146 [.s 124], gM 6 125]) (.seq (gQ [gM 126 6, gU 127 .neq 126 0]) (.cond (.s 127) (.seq (gQ [gM 128 6, gM 2 128]) .ret) .skip)))))) (.reg [gM 91 5, gU 92 .add 91 1, gM 5 92])))))) (.seq (gQ [gJ 2 0]) .ret)))))
def a_ref01_parts : AFn := ⟨1, 129, b_ref01_parts, [.tmp 2]⟩
theorem a_ref01_parts_ok : fnAF Tryz.prog [] Tryz.f146 = some a_ref01_parts := by kernel_rfl
theorem a_ref01_parts_cb : callable Tryz.prog 146 = true := by kernel_rfl
def b_ref01_Check : ACode :=
 .seq (gQ [gP 1 0, gJ 2 0]) (.seq (.seq (gQ [gA 3 6 1, gC 4 144 [.s 3], gU 5 .gtr 4 16]) (.cond (.s 5) (.seq (gQ [gJ 2 5]) .ret) .skip)) (.seq (.seq (gQ [gA 6 6 1, gC 7 145 [.s 6], gU 8 .gtr 7 4096]) (.cond (.s 8) (.seq (gQ [gJ 2 6]) .ret) .skip)) (.seq (gQ [gA 9 6 1, gC 10 146 [.s 9], gM 2 10]) .ret)))
def a_ref01_Check : AFn := ⟨1, 11, b_ref01_Check, [.tmp 2]⟩
theorem a_ref01_Check_ok : fnAF Tryz.prog [] Tryz.f99 = some a_ref01_Check := by kernel_rfl
theorem a_ref01_Check_cb : callable Tryz.prog 99 = true := by kernel_rfl
end Go.Proofs.YtbfiopoefbbknaaGreatDoor
namespace Go.Proofs.YtbfiopoefbbknaaGreatDoor
open Go.RowKit
mutual
def cellsV : V → List AV
 | .mk k b n s l m => [.int .i64 k, .bool b, .int .i64 n, .str s, .lst .any 6 (rowsV l), .lst .any 7 (rowsM m)]
def rowsV : List V → List (List AV)
 | [] => []
 | x :: l => cellsV x :: rowsV l
def rowsM : List (ByteArray × V) → List (List AV)
 | [] => []
 | (y, x) :: m => (.str y :: cellsV x) :: rowsM m
end
abbrev vC (v : V) : List AV := [.int .i64 v.kind, .bool v.b, .int .i64 v.n, .str v.s, .lst .any 6 (rowsV v.l), .lst .any 7 (rowsM v.m)]
abbrev vA (v : V) : AV := .agg (vC v)
theorem cellsV_eq (v : V) : cellsV v = [.int .i64 v.kind, .bool v.b, .int .i64 v.n, .str v.s, .lst .any 6 (rowsV v.l), .lst .any 7 (rowsM v.m)] := by cases v; rfl
theorem rowsV_len (l : List V) : (rowsV l).length = l.length := by
 induction l with
 | nil => rfl
 | cons x l ih => simp [rowsV, ih]
theorem rowsM_len (l : List (ByteArray × V)) : (rowsM l).length = l.length := by
 induction l with
 | nil => rfl
 | cons x l ih => obtain ⟨y, x⟩ := x; simp [rowsM, ih]
theorem rowsV_at : ∀ {l : List V} {k : Nat} {x : V}, l[k]? = some x → (rowsV l)[k]? = some [.int .i64 x.kind, .bool x.b, .int .i64 x.n, .str x.s, .lst .any 6 (rowsV x.l), .lst .any 7 (rowsM x.m)]
 | y :: l, 0, x, h => by simp at h; subst h; rw [← cellsV_eq]; rfl
 | y :: l, k + 1, x, h => by simpa [rowsV] using rowsV_at (l := l) (k := k) (by simpa using h)
theorem rowsM_at : ∀ {l : List (ByteArray × V)} {k : Nat} {y : ByteArray} {x : V}, l[k]? = some (y, x) → (rowsM l)[k]? = some [.str y, .int .i64 x.kind, .bool x.b, .int .i64 x.n, .str x.s, .lst .any 6 (rowsV x.l), .lst .any 7 (rowsM x.m)]
 | (z, y) :: l, 0, w, x, h => by simp at h; obtain ⟨rfl, rfl⟩ := h; rw [rowsM, cellsV_eq]; rfl
 | (z, y) :: l, k + 1, w, x, h => by simpa [rowsM] using rowsM_at (l := l) (k := k) (by simpa using h)
theorem wrap_in {n : Int} (h0 : -9223372036854775808 ≤ n) (h1 : n ≤ 9223372036854775807) : IntKind.i64.wrap n = n := by
 have := IntWalk.i64_in n (by omega)
 exact this
theorem fw0 : Tryz.prog.follows .mixedOrders = true := by kernel_rfl
theorem kW {p q : Prop} (h : q) (f : q → p := by intro hh; (repeat (first | apply kS | apply kB | apply kL | apply kN | refine kA fw0 ?_)); exact hh) : p := f h
theorem kQ {P : Program} {E : Env} {Q : Exit → Fr → St → Prop} {k : List AItem} {fr fr' : Fr} {st st' : St} (rs : List RS) {l : List GI} {rs' : List RS} {p : Prop} (h : AK P E Q k fr' st') (hs : arun P l rs fr st = some (rs', fr', st', p) := by rfl)
  (hp : p := by (repeat' apply And.intro) <;> first | exact kD | (intro hgd; refine ⟨?_, kG⟩; (repeat' apply And.intro) <;> exact kD)) (hm : P.follows .mixedOrders = true := by exact fw0) : AK P E Q (.c (.reg l) :: k) fr st := kR hm rs hs hp h
theorem kP {P : Program} {E : Env} {Q : Exit → Fr → St → Prop} {k : List AItem} {fr fr' : Fr} {st st' : St} (rs : List RS) {l : List GI} {rs' : List RS} {p : Prop} (hp : p) (h : AK P E Q k fr' st') (hs : arun P l rs fr st = some (rs', fr', st', p) := by rfl) (hm : P.follows .mixedOrders = true := by exact fw0) : AK P E Q (.c (.reg l) :: k) fr st := kR hm rs hs hp h
theorem kE {P : Program} {mu : List Nat} {f : FuncId} {fn : Func} {af : AFn} {args : List AV} {r : AV} (hf : P.funcs[f]? = some fn) (haf : fnAF P mu fn = some af) (hcb : callable P f = true)
  (h : ∀ E : Env, E.n = af.n → AK P E (RQ af.res r) [.c af.body] (argFr 0 args) ⟨fun _ => none, fun _ => 0⟩) (hl : Nat.ble args.length af.n = true := by rfl) : AC P f args r := AC.enter hf haf hcb hl h
theorem kC {P : Program} {E : Env} {Q : Exit → Fr → St → Prop} {k : List AItem} {fr : Fr} {st : St} {x : Opd} {t e : ACode} {b : Bool} (h1 : b = true → AK P E Q (.c t :: k) fr st) (h2 : b = false → AK P E Q (.c e :: k) fr st) (hx : x.ev fr = some (.bool b) := by rfl) : AK P E Q (.c (.cond x t e) :: k) fr st := AK.cond hx h1 h2
theorem kI {st : St} {fr : Fr} {s : Nat} {x : AV} (h : fr s = some x := by rfl) : ∃ v, fr s = some v ∧ AVle st v x := ⟨x, h, .refl _⟩
theorem kJ {st : St} {s : Nat} {cs : List AV} {fz : Bool} (h : st.box s = some (cs, fz) := by rfl) : ∃ ds, st.box s = some (ds, fz) ∧ leL st ds cs := ⟨cs, h, leL_refl _⟩
theorem kU {st : St} {fr : Fr} {s : Nat} {k : IntKind} {a b : Int} (h : fr s = some (.int k a) := by rfl) (e : a = b := by first | omega | (rw [wrap_in (by omega) (by omega)]; omega)) : ∃ v, fr s = some v ∧ AVle st v (.int k b) := ⟨_, h, .of_eq (congrArg _ e)⟩
theorem byte_at {s : ByteArray} {k : Nat} (h : k < s.size) : s.data.getD k 0 = s[k] := by
 rw [Array.getD, dif_pos (show k < s.data.size from h)]
 rfl
theorem refText_a (s : ByteArray) (hs : s.size ≤ 140737488355328) : AC Tryz.prog 42 [.str s] (.bool (textB s)) := by
 refine kE Tryz.func42 a_ref01_Text_ok a_ref01_Text_cb fun E hE => ?_
 refine kW ?_
 refine AK.loopI (fun k : Nat => (frOf [(0, .str s), (3, .int .i64 k)], ⟨boxOf [], fun _ => 0⟩)) (fun k => k ≤ s.size ∧ allTo okT s k) (fun k => s.size - k) 0 ⟨by omega, allTo_zero _ _⟩ (Weak.intro ⟨kI, kI, trivial⟩ trivial rfl rfl) fun k ⟨hk, hno⟩ => ?_
 refine kW ?_
 refine kC (fun hb => ?_) fun hb => ?_
 ·have hlt : k < s.size := by simpa using hb
  refine kW ?_
  refine kQ [] ?_
  rw [show s.data.getD (k : Int).toNat 0 = s[k] from byte_at hlt]
  refine kC (fun hb => ?_) fun hb => ?_
  ·refine kW ?_
   refine AK.ret ⟨_, rfl, ?_⟩
   have hf : okT s[k] = false := by
    simp only [Bool.or_eq_true, Bool.and_eq_true, Bool.not_eq_true', decide_eq_true_eq, decide_eq_false_iff_not] at hb
    simp only [okT, Bool.or_eq_false_iff, Bool.and_eq_false_iff, decide_eq_false_iff_not, beq_eq_false_iff_ne, ne_eq]
    omega
   rw [textB, allB_false hlt hf]
   rfl
  ·have ht : okT s[k] = true := by
    simp only [Bool.or_eq_false_iff, Bool.and_eq_false_iff, Bool.not_eq_false', decide_eq_true_eq, decide_eq_false_iff_not] at hb
    simp only [okT, Bool.or_eq_true, Bool.and_eq_true, decide_eq_true_eq, beq_iff_eq]
    omega
   refine kW ?_
   exact AK.lp ⟨k + 1, ⟨by omega, allTo_succ hno hlt ht⟩, Weak.intro ⟨kI, kU, trivial⟩ trivial rfl rfl, by omega⟩
 ·have hlt : k = s.size := by have : s.size ≤ k := by simpa using hb
                              omega
  subst hlt
  refine AK.exit rfl ?_
  refine kW ?_
  refine AK.ret ⟨_, rfl, ?_⟩
  show AV.bool _ = AV.bool _
  refine congrArg AV.bool ?_
  rw [textB, allB_true hno, Bool.eq_iff_iff]
  simp
  try omega
end Go.Proofs.YtbfiopoefbbknaaGreatDoor
