/-
  The texts that the claim wants, one behind the other: part 8.
-/
import Derived.Test.YtnpkejnaeemgjaaGreatDoorS7
import Derived.Test.YtnpkejnaeemgjaaGreatDoorChecked
import Derived.KernelRfl
set_option linter.unusedSimpArgs false
set_option linter.unusedVariables false
namespace Go.Proofs.YtnpkejnaeemgjaaGreatDoor
set_option maxRecDepth 100000
def b_ref04_Bare : ACode :=
 .seq (gQ [⟨gO, .mov 2 (.k (.bool false))⟩]) (.seq (.seq (gQ [gM 7 0, gH 8 true 7, gU 9 .eql 8 0, gM 10 9, gN 10 false 11 0, ⟨some (10, false), .bin 12 .eql false (.s 11) (gS ⟨#[110, 117, 108, 108]⟩)⟩, ⟨gO, .pick 13 (.s 10) (.k (.bool true)) (.s 12)⟩, gM 14 13, gN 14 false 15 0, ⟨some (14, false), .bin 16 .eql false (.s 15) (gS ⟨#[116, 114, 117, 101]⟩)⟩, ⟨gO, .pick 17 (.s 14) (.k (.bool true)) (.s 16)⟩, gM 18 17, gN 18 false 19 0, ⟨some (18, false), .bin 20 .eql false (.s 19) (gS ⟨#[102, 97, 108, 115, 101]⟩)⟩, ⟨gO, .pick 21 (.s 18) (.k (.bool true)) (.s 20)⟩]) (.cond (.s 21) (.seq (gQ [⟨gO, .mov 2 (.k (.bool false))⟩]) .ret) .skip)) (.seq (.seq (gQ [gJ 3 0]) (.block 0 (.loop (.seq (.seq (gQ [gM 22 3, gM 23 0, gH 24 true 23, gV 25 .lss 22 24]) (.cond (.s 25) .skip (.exit 0))) (.seq (.block 1 (.seq (gQ [gM 28 0, gM 29 3, ⟨gO, .bidx 30 (.s 28) (.s 29)⟩, gM 4 30]) (.seq (gQ [gM 31 4, ⟨gO, gB 32 .geq (.s 31) (.k (.int .u8 65))⟩, gM 33 32, gN 33 true 34 4, ⟨some (33, true), .bin 35 .leq false (.s 34) (.k (.int .u8 90))⟩, ⟨gO, .pick 36 (.s 33) (.s 35) (.k (.bool false))⟩, gM 37 36, gN 37 false 38 4, ⟨some (37, false), .bin 39 .geq false (.s 38) (.k (.int .u8 97))⟩, gN 37 false 40 39, gN 40 true 41 4, ⟨some (40, true), .bin 42 .leq false (.s 41) (.k (.int .u8 122))⟩, ⟨some (37, false), .pick 43 (.s 40) (.s 42) (.k (.bool false))⟩, ⟨gO, .pick 44 (.s 37) (.k (.bool true)) (.s 43)⟩, gM 5 44]) (.seq (gQ [gM 45 4, ⟨gO, gB 46 .geq (.s 45) (.k (.int .u8 48))⟩, gM 47 46, gN 47 true 48 4, ⟨some (47, true), .bin 49 .leq false (.s 48) (.k (.int .u8 57))⟩, ⟨gO, .pick 50 (.s 47) (.s 49) (.k (.bool false))⟩, gM 51 50, gN 51 false 52 4, ⟨some (51, false), .bin 53 .eql false (.s 52) (.k (.int .u8 95))⟩, ⟨gO, .pick 54 (.s 51) (.k (.bool true)) (.s 53)⟩, gM 55 54, gN 55 false 56 4, ⟨some (55, false), .bin 57 .eql false (.s 56) (.k (.int .u8 45))⟩, ⟨gO, .pick 58 (.s 55) (.k (.bool true)) (.s 57)⟩, gM 59 58, gN 59 false 60 4, ⟨some (59, false), .bin 61 .eql false (.s 60) (.k (.int .u8 46))⟩, ⟨gO, .pick 62 (.s 59) (.k (.bool true)) (.s 61)⟩, gM 63 62, gN 63 false 64 4, ⟨some (63, false), .bin 65 .eql false (.s 64) (.k (.int .u8 47))⟩, ⟨gO, .pick 66 (.s 63) (.k (.bool true)) (.s 65)⟩, gM 6 66]) (.seq (gQ [gM 67 5, ⟨gO, .un 68 .not (.s 67)⟩, gM 69 68, gN 69 true 70 3, ⟨some (69, true), .bin 71 .eql false (.s 70) (gI 0)⟩, gN 69 true 72 71, gN 72 false 73 6, ⟨some (72, false), .un 74 .not (.s 73)⟩, ⟨some (69, true), .pick 75 (.s 72) (.k (.bool true)) (.s 74)⟩, ⟨gO, .pick 76 (.s 69) (.s 75) (.k (.bool false))⟩]) (.cond (.s 76) (.seq (gQ [⟨gO, .mov 2 (.k (.bool false))⟩]) .ret) .skip)))))) (.reg [gM 26 3, gU 27 .add 26 1, gM 3 27])))))) (.seq (gQ [⟨gO, .mov 2 (.k (.bool true))⟩]) .ret)))
def a_ref04_Bare : AFn := ⟨1, 77, b_ref04_Bare, [.tmp 2]⟩
theorem a_ref04_Bare_ok : fnAF Tryz.prog [] Tryz.f49 = some a_ref04_Bare := by kernel_rfl
theorem a_ref04_Bare_cb : callable Tryz.prog 49 = true := by kernel_rfl
def b_ref04_Quote : ACode :=
 .seq (gQ [⟨gO, .mov 2 (gS ⟨#[]⟩)⟩]) (.seq (gQ [⟨gO, .mov 3 (gS ⟨#[34]⟩)⟩]) (.seq (.seq (gQ [gJ 4 0]) (.block 0 (.loop (.seq (.seq (gQ [gM 5 4, gM 6 0, gH 7 true 6, gV 8 .lss 5 7]) (.cond (.s 8) .skip (.exit 0))) (.seq (.block 1 (.seq (gQ [gM 11 0, gM 12 4, ⟨gO, .bidx 13 (.s 11) (.s 12)⟩]) (.block 2 (.seq (gQ [⟨gO, gB 22 .eql (.s 13) (.k (.int .u8 10))⟩, gM 21 22]) (.cond (.s 21) (.reg [gM 23 3, ⟨gO, gB 24 .add (.s 23) (gS ⟨#[92, 110]⟩)⟩, gM 3 24]) (.seq (gQ [⟨gO, gB 26 .eql (.s 13) (.k (.int .u8 9))⟩, gM 25 26]) (.cond (.s 25) (.reg [gM 27 3, ⟨gO, gB 28 .add (.s 27) (gS ⟨#[92, 116]⟩)⟩, gM 3 28]) (.seq (.seq (gQ [⟨gO, gB 30 .eql (.s 13) (.k (.int .u8 34))⟩, gM 29 30]) (.cond (.s 29) .skip (.reg [⟨gO, gB 31 .eql (.s 13) (.k (.int .u8 92))⟩, gM 29 31]))) (.cond (.s 29) (.reg [gM 32 3, ⟨gO, gB 33 .add (.s 32) (gS ⟨#[92]⟩)⟩, gM 34 0, gM 35 4, gM 36 4, gU 37 .add 36 1, ⟨gO, .sub 38 true 0 (.s 34) (some (.s 35)) (some (.s 37))⟩, gV 39 .add 33 38, gM 3 39]) (.reg [gM 14 3, gM 15 0, gM 16 4, gM 17 4, gU 18 .add 17 1, ⟨gO, .sub 19 true 0 (.s 15) (some (.s 16)) (some (.s 18))⟩, gV 20 .add 14 19, gM 3 20])))))))))) (.reg [gM 9 4, gU 10 .add 9 1, gM 4 10])))))) (.seq (gQ [gM 40 3, ⟨gO, gB 41 .add (.s 40) (gS ⟨#[34]⟩)⟩, gM 2 41]) .ret)))
def a_ref04_Quote : AFn := ⟨1, 42, b_ref04_Quote, [.tmp 2]⟩
theorem a_ref04_Quote_ok : fnAF Tryz.prog [] Tryz.f50 = some a_ref04_Quote := by kernel_rfl
theorem a_ref04_Quote_cb : callable Tryz.prog 50 = true := by kernel_rfl
def b_ref04_Print : ACode :=
 .seq (gQ [gP 1 0, ⟨gO, .mov 2 (gS ⟨#[]⟩)⟩]) (.seq (.seq (gQ [gF 3 0 1, gL 4 3]) (.block 0 (.seq (gQ [gU 6 .eql 4 1, gM 5 6]) (.cond (.s 5) (.seq (.seq (gQ [gF 7 1 1, gL 8 7]) (.cond (.s 8) (.seq (gQ [⟨gO, .mov 2 (gS ⟨#[116, 114, 117, 101]⟩)⟩]) .ret) .skip)) (.seq (gQ [⟨gO, .mov 2 (gS ⟨#[102, 97, 108, 115, 101]⟩)⟩]) .ret)) (.seq (gQ [gU 10 .eql 4 2, gM 9 10]) (.cond (.s 9) (.seq (gQ [gF 11 2 1, gL 12 11, gC 13 48 [.s 12], gM 2 13]) .ret) (.seq (gQ [gU 15 .eql 4 3, gM 14 15]) (.cond (.s 14) (.seq (.seq (gQ [gF 16 3 1, gL 17 16, gC 18 49 [.s 17]]) (.cond (.s 18) (.seq (gQ [gF 19 3 1, gL 20 19, gM 2 20]) .ret) .skip)) (.seq (gQ [gF 21 3 1, gL 22 21, gC 23 50 [.s 22], gM 2 23]) .ret)) (.seq (gQ [gU 25 .eql 4 4, gM 24 25]) (.cond (.s 24) (.seq (gQ [⟨gO, .mov 2 (gS ⟨#[91, 93]⟩)⟩]) .ret) (.seq (gQ [gU 27 .eql 4 5, gM 26 27]) (.cond (.s 26) (.seq (gQ [⟨gO, .mov 2 (gS ⟨#[123, 125]⟩)⟩]) .ret) .skip)))))))))))) (.seq (gQ [⟨gO, .mov 2 (gS ⟨#[110, 117, 108, 108]⟩)⟩]) .ret))
def a_ref04_Print : AFn := ⟨1, 28, b_ref04_Print, [.tmp 2]⟩
theorem a_ref04_Print_ok : fnAF Tryz.prog [] Tryz.f19 = some a_ref04_Print := by kernel_rfl
theorem a_ref04_Print_cb : callable Tryz.prog 19 = true := by kernel_rfl
def b_scalar_letter : ACode :=
 .seq (gQ [⟨gO, .mov 2 (.k (.bool false))⟩]) (.seq (gQ [gM 3 0, ⟨gO, gB 4 .geq (.s 3) (.k (.int .u8 97))⟩, gM 5 4, gN 5 true 6 0, ⟨some (5, true), .bin 7 .leq false (.s 6) (.k (.int .u8 122))⟩, ⟨gO, .pick 8 (.s 5) (.s 7) (.k (.bool false))⟩, gM 9 8, gN 9 false 10 0, ⟨some (9, false), .bin 11 .geq false (.s 10) (.k (.int .u8 65))⟩, gN 9 false 12 11, gN 12 true 13 0, ⟨some (12, true), .bin 14 .leq false (.s 13) (.k (.int .u8 90))⟩, ⟨some (9, false), .pick 15 (.s 12) (.s 14) (.k (.bool false))⟩, ⟨gO, .pick 16 (.s 9) (.k (.bool true)) (.s 15)⟩, gM 2 16]) .ret)
def a_scalar_letter : AFn := ⟨1, 17, b_scalar_letter, [.tmp 2]⟩
theorem a_scalar_letter_ok : fnAF Tryz.prog [] Tryz.f107 = some a_scalar_letter := by kernel_rfl
theorem a_scalar_letter_cb : callable Tryz.prog 107 = true := by kernel_rfl
def b_scalar_digit : ACode :=
 .seq (gQ [⟨gO, .mov 2 (.k (.bool false))⟩]) (.seq (gQ [gM 3 0, ⟨gO, gB 4 .geq (.s 3) (.k (.int .u8 48))⟩, gM 5 4, gN 5 true 6 0, ⟨some (5, true), .bin 7 .leq false (.s 6) (.k (.int .u8 57))⟩, ⟨gO, .pick 8 (.s 5) (.s 7) (.k (.bool false))⟩, gM 2 8]) .ret)
def a_scalar_digit : AFn := ⟨1, 9, b_scalar_digit, [.tmp 2]⟩
theorem a_scalar_digit_ok : fnAF Tryz.prog [] Tryz.f108 = some a_scalar_digit := by kernel_rfl
theorem a_scalar_digit_cb : callable Tryz.prog 108 = true := by kernel_rfl
def b_scalar_Bare : ACode :=
 .seq (gQ [⟨gO, .mov 2 (.k (.bool false))⟩]) (.seq (.seq (gQ [gM 5 0, gH 6 true 5, gJ 7 0]) (.block 0 (.loop (.seq (gQ [gV 8 .lss 7 6]) (.seq (.cond (.s 8) .skip (.exit 0)) (.seq (.block 1 (.seq (gQ [gM 9 7, gM 3 9]) (.seq (gQ [gM 10 0, gM 11 3, ⟨gO, .bidx 12 (.s 10) (.s 11)⟩, gM 4 12]) (.seq (gQ [gM 13 4, gC 14 107 [.s 13], ⟨gO, .un 15 .not (.s 14)⟩, gM 16 15, gN 16 true 17 3, ⟨some (16, true), .bin 18 .eql false (.s 17) (gI 0)⟩, gN 16 true 19 18, gN 19 false 20 4, ⟨some (19, false), .call (some 21) (.k (.fn 108 [])) [.s 20]⟩, ⟨some (19, false), .un 22 .not (.s 21)⟩, gN 19 false 23 22, gN 23 true 24 4, ⟨some (23, true), .call (some 25) (.k (.fn 109 [])) [gS ⟨#[95, 45, 46, 47]⟩, .s 24]⟩, ⟨some (23, true), .bin 26 .lss false (.s 25) (gI 0)⟩, ⟨some (19, false), .pick 27 (.s 23) (.s 26) (.k (.bool false))⟩, ⟨some (16, true), .pick 28 (.s 19) (.k (.bool true)) (.s 27)⟩, ⟨gO, .pick 29 (.s 16) (.s 28) (.k (.bool false))⟩]) (.cond (.s 29) (.seq (gQ [⟨gO, .mov 2 (.k (.bool false))⟩]) .ret) .skip))))) (.reg [gU 30 .add 7 1, gM 7 30]))))))) (.seq (.seq (gQ [gM 31 0]) (.block 2 (.seq (.seq (gQ [⟨gO, gB 33 .eql (.s 31) (gS ⟨#[]⟩)⟩, gM 32 33]) (.cond (.s 32) .skip (.seq (gQ [⟨gO, gB 34 .eql (.s 31) (gS ⟨#[110, 117, 108, 108]⟩)⟩, gM 32 34]) (.cond (.s 32) .skip (.seq (gQ [⟨gO, gB 35 .eql (.s 31) (gS ⟨#[116, 114, 117, 101]⟩)⟩, gM 32 35]) (.cond (.s 32) .skip (.reg [⟨gO, gB 36 .eql (.s 31) (gS ⟨#[102, 97, 108, 115, 101]⟩)⟩, gM 32 36]))))))) (.cond (.s 32) (.seq (gQ [⟨gO, .mov 2 (.k (.bool false))⟩]) .ret) .skip)))) (.seq (gQ [⟨gO, .mov 2 (.k (.bool true))⟩]) .ret)))
def a_scalar_Bare : AFn := ⟨1, 37, b_scalar_Bare, [.tmp 2]⟩
theorem a_scalar_Bare_ok : fnAF Tryz.prog [] Tryz.f68 = some a_scalar_Bare := by kernel_rfl
theorem a_scalar_Bare_cb : callable Tryz.prog 68 = true := by kernel_rfl
def b_tree_Text : ACode :=
 .seq (gQ [⟨gO, .mov 2 (.k (.bool false))⟩]) (.seq (.seq (gQ [gM 5 0, gH 6 true 5, gJ 7 0]) (.block 0 (.loop (.seq (gQ [gV 8 .lss 7 6]) (.seq (.cond (.s 8) .skip (.exit 0)) (.seq (.block 1 (.seq (gQ [gM 9 7, gM 3 9]) (.seq (gQ [gM 10 0, gM 11 3, ⟨gO, .bidx 12 (.s 10) (.s 11)⟩, gM 4 12]) (.seq (gQ [gM 13 4, ⟨gO, gB 14 .lss (.s 13) (.k (.int .u8 32))⟩, gM 15 14, gN 15 true 16 4, ⟨some (15, true), .bin 17 .neq false (.s 16) (.k (.int .u8 10))⟩, ⟨gO, .pick 18 (.s 15) (.s 17) (.k (.bool false))⟩, gM 19 18, gN 19 true 20 4, ⟨some (19, true), .bin 21 .neq false (.s 20) (.k (.int .u8 9))⟩, ⟨gO, .pick 22 (.s 19) (.s 21) (.k (.bool false))⟩, gM 23 22, gN 23 false 24 4, ⟨some (23, false), .bin 25 .gtr false (.s 24) (.k (.int .u8 126))⟩, ⟨gO, .pick 26 (.s 23) (.k (.bool true)) (.s 25)⟩]) (.cond (.s 26) (.seq (gQ [⟨gO, .mov 2 (.k (.bool false))⟩]) .ret) .skip))))) (.reg [gU 27 .add 7 1, gM 7 27]))))))) (.seq (gQ [gM 28 0, gH 29 true 28, gU 30 .leq 29 65536, gM 2 30]) .ret))
def a_tree_Text : AFn := ⟨1, 31, b_tree_Text, [.tmp 2]⟩
theorem a_tree_Text_ok : fnAF Tryz.prog [] Tryz.f124 = some a_tree_Text := by kernel_rfl
theorem a_tree_Text_cb : callable Tryz.prog 124 = true := by kernel_rfl
def b_tree_Str : ACode :=
 .seq (gQ [⟨gO, .alloc 2 gZ⟩]) (.seq (gQ [gM 3 0, ⟨gO, .build 4 gZ [(0, 1, gI 3), (3, 1, .s 3)]⟩, gT 6 2 4]) .ret)
def a_tree_Str : AFn := ⟨1, 5, b_tree_Str, [.cell 2 6 true]⟩
theorem a_tree_Str_ok : fnAF Tryz.prog [] Tryz.f95 = some a_tree_Str := by kernel_rfl
theorem a_tree_Str_cb : callable Tryz.prog 95 = true := by kernel_rfl
def b_tree_Null : ACode :=
 .seq (gQ [⟨gO, .alloc 0 gZ⟩]) (.seq (gQ [⟨gO, .build 1 gZ []⟩, gT 6 0 1]) .ret)
def a_tree_Null : AFn := ⟨0, 2, b_tree_Null, [.cell 0 6 true]⟩
theorem a_tree_Null_ok : fnAF Tryz.prog [] Tryz.f80 = some a_tree_Null := by kernel_rfl
theorem a_tree_Null_cb : callable Tryz.prog 80 = true := by kernel_rfl
def b_tree_Bool : ACode :=
 .seq (gQ [⟨gO, .alloc 2 gZ⟩]) (.seq (gQ [gM 3 0, ⟨gO, .build 4 gZ [(0, 1, gI 1), (1, 1, .s 3)]⟩, gT 6 2 4]) .ret)
def a_tree_Bool : AFn := ⟨1, 5, b_tree_Bool, [.cell 2 6 true]⟩
theorem a_tree_Bool_ok : fnAF Tryz.prog [] Tryz.f131 = some a_tree_Bool := by kernel_rfl
theorem a_tree_Bool_cb : callable Tryz.prog 131 = true := by kernel_rfl
def b_tree_List : ACode :=
 .seq (gQ [⟨gO, .alloc 2 gZ⟩]) (.seq (gQ [⟨gO, .build 6 gZ [(0, 1, gI 4)]⟩, ⟨gO, .alloc 3 gZ⟩, gT 6 3 6]) (.seq (.seq (gQ [gM 7 0, gH 8 false 7, gJ 9 0]) (.block 0 (.loop (.seq (gQ [gV 10 .lss 9 8]) (.seq (.cond (.s 10) .skip (.exit 0)) (.seq (.block 1 (.seq (gQ [gE 11 6 7 9, gA 12 6 11, ⟨gO, .alloc 5 gZ⟩, gT 6 5 12]) (.reg [gF 13 4 3, gL 14 13, gA 15 6 5, gC 16 59 [.s 15], ⟨gO, .bsl 17 1 6 gZ [(0, 6, .s 16)]⟩, ⟨gO, .app 18 6 88 (.s 14) (.s 17)⟩, gF 19 4 3, gT 1 19 18]))) (.reg [gU 20 .add 9 1, gM 9 20]))))))) (.seq (gQ [gA 21 6 3, gT 6 2 21]) .ret)))
def a_tree_List : AFn := ⟨1, 22, b_tree_List, [.cell 2 6 true]⟩
theorem a_tree_List_ok : fnAF Tryz.prog [] Tryz.f166 = some a_tree_List := by kernel_rfl
theorem a_tree_List_cb : callable Tryz.prog 166 = true := by kernel_rfl
def b_strings_TrimPrefix : ACode :=
 .seq (gQ [⟨gO, .mov 4 (gS ⟨#[]⟩)⟩]) (.seq (gQ [gM 5 0, gM 6 1, gC 7 136 [.s 5, .s 6], gM 4 7]) .ret)
def a_strings_TrimPrefix : AFn := ⟨2, 8, b_strings_TrimPrefix, [.tmp 4]⟩
theorem a_strings_TrimPrefix_ok : fnAF Tryz.prog [] Tryz.f102 = some a_strings_TrimPrefix := by kernel_rfl
theorem a_strings_TrimPrefix_cb : callable Tryz.prog 102 = true := by kernel_rfl
def b_stringslite_TrimPrefix : ACode :=
 .seq (gQ [⟨gO, .mov 4 (gS ⟨#[]⟩)⟩]) (.seq (.seq (gQ [gM 5 0, gM 6 1, gC 7 69 [.s 5, .s 6]]) (.cond (.s 7) (.seq (gQ [gM 8 0, gM 9 1, gH 10 true 9, ⟨gO, .sub 11 true 0 (.s 8) (some (.s 10)) none⟩, gM 4 11]) .ret) .skip)) (.seq (gQ [gM 12 0, gM 4 12]) .ret))
def a_stringslite_TrimPrefix : AFn := ⟨2, 13, b_stringslite_TrimPrefix, [.tmp 4]⟩
theorem a_stringslite_TrimPrefix_ok : fnAF Tryz.prog [] Tryz.f136 = some a_stringslite_TrimPrefix := by kernel_rfl
theorem a_stringslite_TrimPrefix_cb : callable Tryz.prog 136 = true := by kernel_rfl
def b_strings_Split : ACode :=
 .seq (gQ [⟨gO, .mov 4 (.k (.lst .nil 1 []))⟩]) (.seq (gQ [gM 5 0, gM 6 1, gC 7 127 [.s 5, .s 6, gI 0, .k (.int .i64 (-1))], gM 4 7]) .ret)
def a_strings_Split : AFn := ⟨2, 8, b_strings_Split, [.tmp 4]⟩
theorem a_strings_Split_ok : fnAF Tryz.prog [] Tryz.f90 = some a_strings_Split := by kernel_rfl
theorem a_strings_Split_cb : callable Tryz.prog 90 = true := by kernel_rfl
def b_strings_HasPrefix : ACode :=
 .seq (gQ [⟨gO, .mov 4 (.k (.bool false))⟩]) (.seq (gQ [gM 5 0, gM 6 1, gC 7 69 [.s 5, .s 6], gM 4 7]) .ret)
def a_strings_HasPrefix : AFn := ⟨2, 8, b_strings_HasPrefix, [.tmp 4]⟩
theorem a_strings_HasPrefix_ok : fnAF Tryz.prog [] Tryz.f28 = some a_strings_HasPrefix := by kernel_rfl
theorem a_strings_HasPrefix_cb : callable Tryz.prog 28 = true := by kernel_rfl
def b_stringslite_HasPrefix : ACode :=
 .seq (gQ [⟨gO, .mov 4 (.k (.bool false))⟩]) (.seq (gQ [gM 5 0, gH 6 true 5, gM 7 1, gH 8 true 7, gV 9 .geq 6 8, gM 10 9, gN 10 true 11 0, gN 10 true 12 1, ⟨some (10, true), .len 13 true (.s 12)⟩, ⟨some (10, true), .sub 14 true 0 (.s 11) none (some (.s 13))⟩, gN 10 true 15 1, ⟨some (10, true), .bin 16 .eql false (.s 14) (.s 15)⟩, ⟨gO, .pick 17 (.s 10) (.s 16) (.k (.bool false))⟩, gM 4 17]) .ret)
def a_stringslite_HasPrefix : AFn := ⟨2, 18, b_stringslite_HasPrefix, [.tmp 4]⟩
theorem a_stringslite_HasPrefix_ok : fnAF Tryz.prog [] Tryz.f69 = some a_stringslite_HasPrefix := by kernel_rfl
theorem a_stringslite_HasPrefix_cb : callable Tryz.prog 69 = true := by kernel_rfl
def b_strings_CutPrefix : ACode :=
 .seq (gQ [⟨gO, .mov 4 (gS ⟨#[]⟩)⟩, ⟨gO, .mov 5 (.k (.bool false))⟩]) (.seq (gQ [gM 6 0, gM 7 1, gC 8 215 [.s 6, .s 7], gX 9 0 8, gX 10 1 8, gM 4 9, gM 5 10]) .ret)
def a_strings_CutPrefix : AFn := ⟨2, 11, b_strings_CutPrefix, [.tmp 4, .tmp 5]⟩
theorem a_strings_CutPrefix_ok : fnAF Tryz.prog [] Tryz.f192 = some a_strings_CutPrefix := by kernel_rfl
theorem a_strings_CutPrefix_cb : callable Tryz.prog 192 = true := by kernel_rfl
def b_stringslite_CutPrefix : ACode :=
 .seq (gQ [⟨gO, .mov 4 (gS ⟨#[]⟩)⟩, ⟨gO, .mov 5 (.k (.bool false))⟩]) (.seq (.seq (gQ [gM 6 0, gM 7 1, gC 8 69 [.s 6, .s 7], ⟨gO, .un 9 .not (.s 8)⟩]) (.cond (.s 9) (.seq (gQ [gM 10 0, gM 4 10, ⟨gO, .mov 5 (.k (.bool false))⟩]) .ret) .skip)) (.seq (gQ [gM 11 0, gM 12 1, gH 13 true 12, ⟨gO, .sub 14 true 0 (.s 11) (some (.s 13)) none⟩, gM 4 14, ⟨gO, .mov 5 (.k (.bool true))⟩]) .ret))
def a_stringslite_CutPrefix : AFn := ⟨2, 15, b_stringslite_CutPrefix, [.tmp 4, .tmp 5]⟩
theorem a_stringslite_CutPrefix_ok : fnAF Tryz.prog [] Tryz.f215 = some a_stringslite_CutPrefix := by kernel_rfl
theorem a_stringslite_CutPrefix_cb : callable Tryz.prog 215 = true := by kernel_rfl
def b_strings_Cut : ACode :=
 .seq (gQ [⟨gO, .mov 4 (gS ⟨#[]⟩)⟩, ⟨gO, .mov 5 (gS ⟨#[]⟩)⟩, ⟨gO, .mov 6 (.k (.bool false))⟩]) (.seq (gQ [gM 7 0, gM 8 1, gC 9 89 [.s 7, .s 8], gX 10 0 9, gX 11 1 9, gX 12 2 9, gM 4 10, gM 5 11, gM 6 12]) .ret)
def a_strings_Cut : AFn := ⟨2, 13, b_strings_Cut, [.tmp 4, .tmp 5, .tmp 6]⟩
theorem a_strings_Cut_ok : fnAF Tryz.prog [] Tryz.f53 = some a_strings_Cut := by kernel_rfl
theorem a_strings_Cut_cb : callable Tryz.prog 53 = true := by kernel_rfl
def b_stringslite_Cut : ACode :=
 .seq (gQ [⟨gO, .mov 4 (gS ⟨#[]⟩)⟩, ⟨gO, .mov 5 (gS ⟨#[]⟩)⟩, ⟨gO, .mov 6 (.k (.bool false))⟩]) (.seq (.seq (gQ [gM 8 0, gM 9 1, gC 10 126 [.s 8, .s 9], gM 7 10]) (.seq (gQ [gM 11 7, gU 12 .geq 11 0]) (.cond (.s 12) (.seq (gQ [gM 13 0, gM 14 7, ⟨gO, .sub 15 true 0 (.s 13) none (some (.s 14))⟩, gM 16 0, gM 17 7, gM 18 1, gH 19 true 18, gV 20 .add 17 19, ⟨gO, .sub 21 true 0 (.s 16) (some (.s 20)) none⟩, gM 4 15, gM 5 21, ⟨gO, .mov 6 (.k (.bool true))⟩]) .ret) .skip))) (.seq (gQ [gM 22 0, gM 4 22, ⟨gO, .mov 5 (gS ⟨#[]⟩)⟩, ⟨gO, .mov 6 (.k (.bool false))⟩]) .ret))
def a_stringslite_Cut : AFn := ⟨2, 23, b_stringslite_Cut, [.tmp 4, .tmp 5, .tmp 6]⟩
theorem a_stringslite_Cut_ok : fnAF Tryz.prog [] Tryz.f89 = some a_stringslite_Cut := by kernel_rfl
theorem a_stringslite_Cut_cb : callable Tryz.prog 89 = true := by kernel_rfl
end Go.Proofs.YtnpkejnaeemgjaaGreatDoor
