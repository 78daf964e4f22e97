/-
  The texts that the claim wants, one behind the other: part 43.
-/
import Derived.Test.YtnpkejnaeemgjaaGreatDoorS42
import Derived.Test.YtnpkejnaeemgjaaGreatDoorChecked
import Derived.KernelRfl
set_option linter.unusedSimpArgs false
set_option linter.unusedVariables false
namespace Go.Proofs.YtnpkejnaeemgjaaGreatDoor
set_option maxRecDepth 100000
def b_chart_New : ACode :=
 .seq (gQ [⟨gO, .mov 2 (.k (.raw (Value.pointer none)))⟩, ⟨gO, .mov 3 (gS ⟨#[]⟩)⟩, gJ 4 0]) (.seq (gQ [gM 12 0, gC 13 25 [.s 12], gM 11 13, gX 14 0 11, gX 15 1 11, gX 16 2 11, gM 5 14, gM 6 15, gM 7 16]) (.seq (.seq (gQ [gM 17 7, gU 18 .neq 17 0]) (.cond (.s 18) (.seq (gQ [gM 19 6, gM 20 7, ⟨gO, .mov 2 (.k (.raw (Value.pointer none)))⟩, gM 3 19, gM 4 20]) .ret) .skip)) (.seq (gQ [⟨gO, .call (some 21) (.k (.fn 22 [])) [.k (.lst .nil 7 [])]⟩, ⟨gO, .build 22 [.str ⟨#[]⟩, .str ⟨#[]⟩, .int .i64 0, .bool false, .int .i64 0, .str ⟨#[]⟩, .lst .nil 6 [], .lst .nil 7 [], .lst .nil 2 [], .lst .nil 1 [], .raw (Value.map none)] [(2, 6, .s 21)]⟩, gP 23 22, gM 8 23]) (.seq (.seq (gQ [gM 24 5, gH 25 false 24, gJ 26 0]) (.block 0 (.loop (.seq (gQ [gV 27 .lss 26 25]) (.seq (.cond (.s 27) .skip (.exit 0)) (.seq (.block 1 (.seq (gQ [gE 28 2 24 26, gA 29 2 28, ⟨gO, .alloc 10 [.str ⟨#[]⟩, .str ⟨#[]⟩]⟩, gT 2 10 29]) (.seq (.block 2 (.seq (gQ [gF 31 0 10, gL 32 31, ⟨gO, gB 33 .eql (.s 32) (gS ⟨#[67, 104, 97, 114, 116, 46, 121, 97, 109, 108]⟩)⟩, gM 30 33]) (.cond (.s 30) (.reg [gM 34 8, gF 35 1 10, gL 36 35, ⟨gO, .calls (some 37) (.k (.fn 26 [])) [.s 34, .s 36]⟩, gM 7 37]) (.seq (gQ [gF 39 0 10, gL 40 39, ⟨gO, gB 41 .eql (.s 40) (gS ⟨#[118, 97, 108, 117, 101, 115, 46, 121, 97, 109, 108]⟩)⟩, gM 38 41]) (.cond (.s 38) (.reg [gM 42 8, gF 43 1 10, gL 44 43, ⟨gO, .calls (some 45) (.k (.fn 27 [])) [.s 42, .s 44]⟩, gM 7 45]) (.seq (gQ [gF 47 0 10, gL 48 47, ⟨gO, .call (some 49) (.k (.fn 28 [])) [.s 48, gS ⟨#[116, 101, 109, 112, 108, 97, 116, 101, 115, 47]⟩]⟩, gM 46 49]) (.cond (.s 46) (.reg [gM 50 8, gA 51 2 10, ⟨gO, .calls (some 52) (.k (.fn 29 [])) [.s 50, .s 51]⟩, gM 7 52]) .skip))))))) (.seq (gQ [gM 53 7, gU 54 .neq 53 0]) (.cond (.s 54) (.seq (gQ [gF 55 0 10, gL 56 55, gM 57 7, ⟨gO, .mov 2 (.k (.raw (Value.pointer none)))⟩, gM 3 56, gM 4 57]) .ret) .skip))))) (.reg [gU 58 .add 26 1, gM 26 58]))))))) (.seq (.seq (gQ [gM 59 8, gF 60 0 59, gF 61 0 60, gL 62 61, ⟨gO, gB 63 .eql (.s 62) (gS ⟨#[]⟩)⟩]) (.cond (.s 63) (.seq (gQ [⟨gO, .mov 2 (.k (.raw (Value.pointer none)))⟩, ⟨gO, .mov 3 (gS ⟨#[67, 104, 97, 114, 116, 46, 121, 97, 109, 108]⟩)⟩, gJ 4 3]) .ret) .skip)) (.seq (gQ [gM 64 8, gM 2 64, ⟨gO, .mov 3 (gS ⟨#[]⟩)⟩, gJ 4 0]) .ret))))))
def a_chart_New : AFn := ⟨1, 65, b_chart_New, [.tmp 2, .tmp 3, .tmp 4]⟩
theorem a_chart_New_ok : fnAF Tryz.prog [2000026, 2000027, 2000029, 2000008, 2000016, 2000065] Tryz.f8 = some a_chart_New := by kernel_rfl
theorem a_chart_New_cb : callable Tryz.prog 8 = true := by kernel_rfl
def b_chart_Chart_head : ACode :=
 .seq (gQ [gJ 4 0]) (.seq (gQ [gM 12 1, gC 13 45 [.s 12], gM 11 13, gX 14 0 11, gX 15 1 11, ⟨gO, .alloc 5 gZ⟩, gT 6 5 14, gM 6 15]) (.seq (.seq (gQ [gM 16 6, gU 17 .neq 16 0]) (.cond (.s 17) (.seq (gQ [gM 18 6, gM 4 18]) .ret) .skip)) (.seq (gQ [gA 20 6 5, ⟨gO, .call (some 21) (.k (.fn 24 [])) [.s 20, gS ⟨#[110, 97, 109, 101]⟩]⟩, gM 19 21, gX 22 0 19, gX 23 1 19, ⟨gO, .alloc 7 gZ⟩, gT 6 7 22, gM 8 23]) (.seq (gQ [gA 25 6 5, ⟨gO, .call (some 26) (.k (.fn 24 [])) [.s 25, gS ⟨#[118, 101, 114, 115, 105, 111, 110]⟩]⟩, gM 24 26, gX 27 0 24, gX 28 1 24, ⟨gO, .alloc 9 gZ⟩, gT 6 9 27, gM 10 28]) (.seq (.seq (gQ [gF 29 0 7, gL 30 29, gU 31 .neq 30 3, gM 32 31, ⟨some (32, false), .off 33 0 (.s 9)⟩, ⟨some (32, false), .ld 34 1 false (.s 33)⟩, ⟨some (32, false), .bin 35 .neq false (.s 34) (gI 3)⟩, ⟨gO, .pick 36 (.s 32) (.k (.bool true)) (.s 35)⟩, gM 37 36, ⟨some (37, false), .off 38 3 (.s 7)⟩, ⟨some (37, false), .ld 39 1 false (.s 38)⟩, ⟨some (37, false), .call (some 40) (.k (.fn 68 [])) [.s 39]⟩, ⟨some (37, false), .un 41 .not (.s 40)⟩, ⟨gO, .pick 42 (.s 37) (.k (.bool true)) (.s 41)⟩, gM 43 42, ⟨some (43, false), .off 44 3 (.s 9)⟩, ⟨some (43, false), .ld 45 1 false (.s 44)⟩, ⟨some (43, false), .bin 46 .eql false (.s 45) (gS ⟨#[]⟩)⟩, ⟨gO, .pick 47 (.s 43) (.k (.bool true)) (.s 46)⟩, gM 48 47, ⟨some (48, false), .off 49 3 (.s 7)⟩, ⟨some (48, false), .ld 50 1 false (.s 49)⟩, ⟨some (48, false), .len 51 true (.s 50)⟩, ⟨some (48, false), .off 52 3 (.s 9)⟩, ⟨some (48, false), .ld 53 1 false (.s 52)⟩, ⟨some (48, false), .len 54 true (.s 53)⟩, ⟨some (48, false), .bin 55 .add false (.s 51) (.s 54)⟩, ⟨some (48, false), .bin 56 .gtr false (.s 55) (gI 256)⟩, ⟨gO, .pick 57 (.s 48) (.k (.bool true)) (.s 56)⟩]) (.cond (.s 57) (.seq (gQ [gJ 4 25]) .ret) .skip)) (.seq (.rega [gM 58 0, gM 59 0, gF 60 3 7, gL 61 60, gF 62 3 9, gL 63 62, gF 64 0 58, gF 65 0 64, gT 1 65 61, gF 66 0 59, gF 67 1 66, gT 1 67 63] [[], [], [], [2], [], [4], [0, 0, 2, 3], [6, 0, 2, 3], [7, 3, 0, 2, 3], [1, 0, 1, 2, 3, 4, 5, 6, 7, 8], [9, 0, 1, 2, 3, 4, 5, 6, 7, 8], [10, 5, 8, 0, 1, 2, 3, 4, 5, 6, 7, 8]]) (.seq (gQ [gJ 4 0]) .ret)))))))
def a_chart_Chart_head : AFn := ⟨2, 68, b_chart_Chart_head, [.tmp 4]⟩
theorem a_chart_Chart_head_ok : fnAF Tryz.prog [2000026, 2000027, 2000029, 2000008, 2000016, 2000065] Tryz.f26 = some a_chart_Chart_head := by kernel_rfl
theorem a_chart_Chart_head_cb : callable Tryz.prog 26 = true := by kernel_rfl
def b_chart_Chart_own : ACode :=
 .seq (gQ [gJ 4 0]) (.seq (gQ [gM 8 1, gC 9 45 [.s 8], gM 7 9, gX 10 0 7, gX 11 1 7, ⟨gO, .alloc 5 gZ⟩, gT 6 5 10, gM 6 11]) (.seq (.block 0 (.seq (gQ [gM 13 6, gU 14 .neq 13 0, gM 12 14]) (.cond (.s 12) (.seq (gQ [gM 15 6, gM 4 15]) .ret) (.seq (gQ [gF 17 0 5, gL 18 17, gU 19 .eql 18 0, gM 16 19]) (.cond (.s 16) (.seq (gQ [gJ 4 0]) .ret) (.seq (gQ [gF 21 0 5, gL 22 21, gU 23 .neq 22 5, gM 20 23]) (.cond (.s 20) (.seq (gQ [gJ 4 8]) .ret) .skip))))))) (.seq (gQ [gM 24 0, gA 25 6 5, gF 26 0 24, gF 27 2 26, gT 6 27 25]) (.seq (gQ [gJ 4 0]) .ret))))
def a_chart_Chart_own : AFn := ⟨2, 28, b_chart_Chart_own, [.tmp 4]⟩
theorem a_chart_Chart_own_ok : fnAF Tryz.prog [2000026, 2000027, 2000029, 2000008, 2000016, 2000065] Tryz.f27 = some a_chart_Chart_own := by kernel_rfl
theorem a_chart_Chart_own_cb : callable Tryz.prog 27 = true := by kernel_rfl
def b_values_Of : ACode :=
 .seq (gQ [⟨gO, .alloc 6 gZ⟩, gJ 7 0]) (.seq (.seq (gQ [gM 16 0, ⟨gO, .eqs 17 false 31 (.s 16) (.k (.raw (Value.pointer none)))⟩]) (.cond (.s 17) (.seq (gQ [⟨gO, .build 18 gZ []⟩, gT 6 6 18, gJ 7 2]) .ret) .skip)) (.seq (gQ [gM 19 0, gF 20 0 19, gF 21 2 20, gA 22 6 21, ⟨gO, .bsl 23 1 6 gZ [(0, 6, .s 22)]⟩, gC 24 44 [.s 23], ⟨gO, .alloc 8 gZ⟩, gT 6 8 24]) (.seq (.seq (gQ [gM 25 1, gH 26 false 25, gJ 27 0]) (.block 0 (.loop (.seq (gQ [gV 28 .lss 27 26]) (.seq (.cond (.s 28) .skip (.exit 0)) (.seq (.block 1 (.seq (gQ [gE 29 1 25 27, gL 30 29, gM 10 30]) (.seq (gQ [gM 32 10, gC 33 45 [.s 32], gM 31 33, gX 34 0 31, gX 35 1 31, ⟨gO, .alloc 11 gZ⟩, gT 6 11 34, gM 12 35]) (.seq (.block 2 (.seq (gQ [gM 37 12, gU 38 .neq 37 0, gM 36 38]) (.cond (.s 36) (.seq (gQ [⟨gO, .build 39 gZ []⟩, gM 40 12, gT 6 6 39, gM 7 40]) .ret) (.seq (gQ [gF 42 0 11, gL 43 42, gU 44 .eql 43 0, gM 41 44]) (.cond (.s 41) (.exit 1) (.seq (gQ [gF 46 0 11, gL 47 46, gU 48 .neq 47 5, gM 45 48]) (.cond (.s 45) (.seq (gQ [⟨gO, .build 49 gZ []⟩, gT 6 6 49, gJ 7 8]) .ret) .skip))))))) (.seq (gQ [gA 50 6 8, gA 51 6 11, gC 52 46 [.s 50, .s 51], gT 6 8 52]) (.seq (gQ [gA 53 6 8, gC 54 47 [.s 53], gU 55 .neq 54 0]) (.cond (.s 55) (.seq (gQ [⟨gO, .build 56 gZ []⟩, gA 57 6 8, gC 58 47 [.s 57], gT 6 6 56, gM 7 58]) .ret) .skip))))))) (.reg [gU 59 .add 27 1, gM 27 59]))))))) (.seq (.seq (gQ [gM 60 2, gH 61 false 60, gJ 62 0]) (.block 3 (.loop (.seq (gQ [gV 63 .lss 62 61]) (.seq (.cond (.s 63) .skip (.exit 3)) (.seq (.block 4 (.seq (gQ [gE 64 1 60 62, gL 65 64, gM 14 65]) (.seq (gQ [gJ 15 0]) (.seq (gQ [gA 67 6 8, gM 68 14, gC 69 21 [.s 67, .s 68], gM 66 69, gX 70 0 66, gX 71 1 66, gT 6 8 70, gM 15 71]) (.seq (gQ [gM 72 15, gU 73 .neq 72 0]) (.cond (.s 73) (.seq (gQ [⟨gO, .build 74 gZ []⟩, gM 75 15, gT 6 6 74, gM 7 75]) .ret) .skip)))))) (.reg [gU 76 .add 62 1, gM 62 76]))))))) (.seq (gQ [gA 77 6 8, gT 6 6 77, gJ 7 0]) .ret)))))
def a_values_Of : AFn := ⟨3, 78, b_values_Of, [.cell 6 6 true, .tmp 7]⟩
theorem a_values_Of_ok : fnAF Tryz.prog [2000026, 2000027, 2000029, 2000008, 2000016, 2000065] Tryz.f16 = some a_values_Of := by kernel_rfl
theorem a_values_Of_cb : callable Tryz.prog 16 = true := by kernel_rfl
def b_layer_All : ACode :=
 .seq (gQ [⟨gO, .alloc 2 gZ⟩]) (.seq (gQ [⟨gO, .call (some 6) (.k (.fn 22 [])) [.k (.lst .nil 7 [])]⟩, ⟨gO, .alloc 3 gZ⟩, gT 6 3 6]) (.seq (.seq (gQ [gM 7 0, gH 8 false 7, gJ 9 0]) (.block 0 (.loop (.seq (gQ [gV 10 .lss 9 8]) (.seq (.cond (.s 10) .skip (.exit 0)) (.seq (.block 1 (.seq (gQ [gE 11 6 7 9, gA 12 6 11, ⟨gO, .alloc 5 gZ⟩, gT 6 5 12]) (.reg [gA 13 6 3, gA 14 6 5, gC 15 46 [.s 13, .s 14], gT 6 3 15]))) (.reg [gU 16 .add 9 1, gM 9 16]))))))) (.seq (gQ [gA 17 6 3, gT 6 2 17]) .ret)))
def a_layer_All : AFn := ⟨1, 18, b_layer_All, [.cell 2 6 true]⟩
theorem a_layer_All_ok : fnAF Tryz.prog [2000026, 2000027, 2000029, 2000008, 2000016, 2000065] Tryz.f44 = some a_layer_All := by kernel_rfl
theorem a_layer_All_cb : callable Tryz.prog 44 = true := by kernel_rfl
def b_law11_ValuesTexts : ACode :=
 .seq (gQ [gP 3 0, gP 4 1, gP 5 2, ⟨gO, .mov 6 (.k (.bool false))⟩]) (.seq (.seq (gQ [gA 23 6 3, gC 24 5 [.s 23], ⟨gO, .un 25 .not (.s 24)⟩, gM 26 25, ⟨some (26, false), .ld 27 6 true (.s 4)⟩, ⟨some (26, false), .call (some 28) (.k (.fn 5 [])) [.s 27]⟩, ⟨some (26, false), .un 29 .not (.s 28)⟩, ⟨gO, .pick 30 (.s 26) (.k (.bool true)) (.s 29)⟩, gM 31 30, ⟨some (31, false), .ld 32 6 true (.s 5)⟩, ⟨some (31, false), .call (some 33) (.k (.fn 5 [])) [.s 32]⟩, ⟨some (31, false), .un 34 .not (.s 33)⟩, ⟨gO, .pick 35 (.s 31) (.k (.bool true)) (.s 34)⟩, gM 36 35, ⟨some (36, false), .ld 37 6 true (.s 3)⟩, ⟨some (36, false), .call (some 38) (.k (.fn 6 [])) [.s 37]⟩, ⟨some (36, false), .len 39 true (.s 38)⟩, ⟨some (36, false), .ld 40 6 true (.s 4)⟩, ⟨some (36, false), .call (some 41) (.k (.fn 6 [])) [.s 40]⟩, ⟨some (36, false), .len 42 true (.s 41)⟩, ⟨some (36, false), .bin 43 .add false (.s 39) (.s 42)⟩, ⟨some (36, false), .ld 44 6 true (.s 5)⟩, ⟨some (36, false), .call (some 45) (.k (.fn 6 [])) [.s 44]⟩, ⟨some (36, false), .len 46 true (.s 45)⟩, ⟨some (36, false), .bin 47 .add false (.s 43) (.s 46)⟩, ⟨some (36, false), .bin 48 .gtr false (.s 47) (gI 60000)⟩, ⟨gO, .pick 49 (.s 36) (.k (.bool true)) (.s 48)⟩]) (.cond (.s 49) (.seq (gQ [gC 50 7 [], gM 6 50]) .ret) .skip)) (.seq (gQ [⟨gO, .build 52 [.str ⟨#[]⟩, .str ⟨#[]⟩] [(0, 1, gS ⟨#[67, 104, 97, 114, 116, 46, 121, 97, 109, 108]⟩), (1, 1, gS ⟨#[110, 97, 109, 101, 58, 32, 97, 10, 118, 101, 114, 115, 105, 111, 110, 58, 32, 98, 10]⟩)]⟩, gA 53 6 3, gC 54 6 [.s 53], ⟨gO, .build 55 [.str ⟨#[]⟩, .str ⟨#[]⟩] [(0, 1, gS ⟨#[118, 97, 108, 117, 101, 115, 46, 121, 97, 109, 108]⟩), (1, 1, .s 54)]⟩, ⟨gO, .bsl 56 2 2 [.str ⟨#[]⟩, .str ⟨#[]⟩, .str ⟨#[]⟩, .str ⟨#[]⟩] [(0, 2, .s 52), (2, 2, .s 55)]⟩, ⟨gO, .calls (some 57) (.k (.fn 8 [])) [.s 56]⟩, gM 51 57, gX 58 0 51, gX 59 1 51, gX 60 2 51, gM 7 58, gM 8 59, gM 9 60]) (.seq (.seq (gQ [gM 61 7, ⟨gO, .eqs 62 false 31 (.s 61) (.k (.raw (Value.pointer none)))⟩, gM 63 62, gN 63 false 64 9, ⟨some (63, false), .bin 65 .neq false (.s 64) (gI 0)⟩, ⟨gO, .pick 66 (.s 63) (.k (.bool true)) (.s 65)⟩]) (.cond (.s 66) (.seq (gQ [⟨gO, .mov 6 (.k (.bool false))⟩]) .ret) .skip)) (.seq (gQ [gA 67 6 4, gC 68 6 [.s 67], gA 69 6 5, gC 70 6 [.s 69], gM 10 68, gM 11 70]) (.seq (gQ [gM 72 7, gM 73 10, gM 74 11, ⟨gO, .bsl 75 2 1 [.str ⟨#[]⟩, .str ⟨#[]⟩] [(0, 1, .s 73), (1, 1, .s 74)]⟩, ⟨gO, .calls (some 76) (.k (.fn 16 [])) [.s 72, .s 75, .k (.lst .nil 1 [])]⟩, gM 71 76, gX 77 0 71, gX 78 1 71, ⟨gO, .alloc 12 gZ⟩, gT 6 12 77, gM 13 78]) (.seq (gQ [gM 80 7, gM 81 10, gM 82 11, ⟨gO, .bsl 83 4 1 [.str ⟨#[]⟩, .str ⟨#[]⟩, .str ⟨#[]⟩, .str ⟨#[]⟩] [(0, 1, .s 81), (1, 1, gS ⟨#[35, 32, 110, 111, 116, 104, 105, 110, 103]⟩), (2, 1, .s 82), (3, 1, gS ⟨#[]⟩)]⟩, ⟨gO, .calls (some 84) (.k (.fn 16 [])) [.s 80, .s 83, .k (.lst .nil 1 [])]⟩, gM 79 84, gX 85 0 79, gX 86 1 79, ⟨gO, .alloc 14 gZ⟩, gT 6 14 85, gM 15 86]) (.seq (.seq (gQ [gM 87 13, gU 88 .neq 87 0]) (.cond (.s 88) (.seq (gQ [gC 89 7 [], gM 90 89, gN 90 true 91 13, gN 90 true 92 15, ⟨some (90, true), .bin 93 .eql false (.s 91) (.s 92)⟩, ⟨gO, .pick 94 (.s 90) (.s 93) (.k (.bool false))⟩, gM 6 94]) .ret) .skip)) (.seq (gQ [gM 96 7, gM 97 10, ⟨gO, .bsl 98 1 1 [.str ⟨#[]⟩] [(0, 1, .s 97)]⟩, ⟨gO, .calls (some 99) (.k (.fn 16 [])) [.s 96, .s 98, .k (.lst .nil 1 [])]⟩, gM 95 99, gX 100 0 95, gX 101 1 95, ⟨gO, .alloc 16 gZ⟩, gT 6 16 100, gM 17 101]) (.seq (gQ [⟨gO, .build 103 [.str ⟨#[]⟩, .str ⟨#[]⟩] [(0, 1, gS ⟨#[67, 104, 97, 114, 116, 46, 121, 97, 109, 108]⟩), (1, 1, gS ⟨#[110, 97, 109, 101, 58, 32, 97, 10, 118, 101, 114, 115, 105, 111, 110, 58, 32, 98, 10]⟩)]⟩, gA 104 6 16, gC 105 6 [.s 104], ⟨gO, .build 106 [.str ⟨#[]⟩, .str ⟨#[]⟩] [(0, 1, gS ⟨#[118, 97, 108, 117, 101, 115, 46, 121, 97, 109, 108]⟩), (1, 1, .s 105)]⟩, ⟨gO, .bsl 107 2 2 [.str ⟨#[]⟩, .str ⟨#[]⟩, .str ⟨#[]⟩, .str ⟨#[]⟩] [(0, 2, .s 103), (2, 2, .s 106)]⟩, ⟨gO, .calls (some 108) (.k (.fn 8 [])) [.s 107]⟩, gM 102 108, gX 109 0 102, gX 110 1 102, gX 111 2 102, gM 18 109, gM 19 110, gM 20 111]) (.seq (.seq (gQ [gM 112 15, gU 113 .neq 112 0, gM 114 113, gN 114 false 115 17, ⟨some (114, false), .bin 116 .neq false (.s 115) (gI 0)⟩, ⟨gO, .pick 117 (.s 114) (.k (.bool true)) (.s 116)⟩, gM 118 117, ⟨some (118, false), .ld 119 6 true (.s 12)⟩, ⟨some (118, false), .ld 120 6 true (.s 14)⟩, ⟨some (118, false), .call (some 121) (.k (.fn 17 [])) [.s 119, .s 120]⟩, ⟨some (118, false), .un 122 .not (.s 121)⟩, ⟨gO, .pick 123 (.s 118) (.k (.bool true)) (.s 122)⟩]) (.cond (.s 123) (.seq (gQ [⟨gO, .mov 6 (.k (.bool false))⟩]) .ret) .skip)) (.seq (.seq (gQ [gM 124 20, gU 125 .neq 124 0]) (.cond (.s 125) (.seq (gQ [gC 126 7 [], gM 127 126, gN 127 true 128 20, ⟨some (127, true), .bin 129 .eql false (.s 128) (gI 6)⟩, ⟨gO, .pick 130 (.s 127) (.s 129) (.k (.bool false))⟩, gM 6 130]) .ret) .skip)) (.seq (gQ [gM 132 18, gM 133 11, ⟨gO, .bsl 134 1 1 [.str ⟨#[]⟩] [(0, 1, .s 133)]⟩, ⟨gO, .calls (some 135) (.k (.fn 16 [])) [.s 132, .s 134, .k (.lst .nil 1 [])]⟩, gM 131 135, gX 136 0 131, gX 137 1 131, ⟨gO, .alloc 21 gZ⟩, gT 6 21 136, gM 22 137]) (.seq (gQ [gC 138 7 [], gM 139 138, gN 139 true 140 22, ⟨some (139, true), .bin 141 .eql false (.s 140) (gI 0)⟩, ⟨gO, .pick 142 (.s 139) (.s 141) (.k (.bool false))⟩, gM 143 142, ⟨some (143, true), .ld 144 6 true (.s 12)⟩, ⟨some (143, true), .ld 145 6 true (.s 21)⟩, ⟨some (143, true), .call (some 146) (.k (.fn 17 [])) [.s 144, .s 145]⟩, ⟨gO, .pick 147 (.s 143) (.s 146) (.k (.bool false))⟩, gM 6 147]) .ret)))))))))))))
def a_law11_ValuesTexts : AFn := ⟨3, 148, b_law11_ValuesTexts, [.tmp 6]⟩
theorem a_law11_ValuesTexts_ok : fnAF Tryz.prog [2000026, 2000027, 2000029, 2000008, 2000016, 2000065] Tryz.f4 = some a_law11_ValuesTexts := by kernel_rfl
theorem a_law11_ValuesTexts_cb : callable Tryz.prog 4 = true := by kernel_rfl
end Go.Proofs.YtnpkejnaeemgjaaGreatDoor
namespace Go.Proofs.YtnpkejnaeemgjaaGreatDoor
open Go.RowKit
def plainN : Nat → V → Prop
 | 0, _ => True
 | n + 1, v => v.kind = 5 → ∀ p ∈ v.m, p.2.kind ≠ 0 ∧ plainN n p.2
def V.plain (v : V) : Prop := ∀ n, plainN n v
theorem plain_map {m : List (ByteArray × V)} : (vMap m).plain ↔ ∀ p ∈ m, p.2.kind ≠ 0 ∧ p.2.plain := by
 constructor
 ·intro h p hp
  exact ⟨(h 1 rfl p hp).1, fun n => (h (n + 1) rfl p hp).2⟩
 ·intro h n
  cases n with
  | zero => trivial
  | succ n => exact fun _ p hp => ⟨(h p hp).1, (h p hp).2 n⟩
theorem plain_other {v : V} (h : v.kind ≠ 5) : v.plain := fun n => by
 cases n with
 | zero => trivial
 | succ n => exact fun h2 => absurd h2 h
theorem strip_kind (n : Nat) (v : V) : (stripN n v).kind = v.kind := by
 cases n with
 | zero => rfl
 | succ n =>
  rw [stripN]
  split
  ·rename_i h
   rw [h]
   rfl
  ·rfl
theorem stripM_ne {f : V → V} {m : List (ByteArray × V)} {q : ByteArray × V} (h : q ∈ stripM f m) : ∃ x, (q.1, x) ∈ m ∧ x.kind ≠ 0 ∧ q.2 = f x := by
 obtain ⟨p, hp, e⟩ := List.mem_filterMap.1 h
 split at e
 ·cases e
 ·rename_i hk
  cases e
  exact ⟨p.2, hp, hk, rfl⟩
theorem strip_plain : ∀ (n : Nat) (v : V), v.size ≤ n → (stripN n v).plain
 | 0, v, h => by have := v.size_pos; omega
 | n + 1, v, h => by
  have hve := v.size_eq
  rw [stripN]
  split
  ·rw [plain_map]
   intro q hq
   obtain ⟨x, hx, hk, e⟩ := stripM_ne hq
   have := mem_sizeM hx
   rw [e, strip_kind]
   exact ⟨hk, strip_plain n x (by dsimp only at this; omega)⟩
  ·rename_i h5
   exact plain_other h5
theorem strip_same : ∀ (n : Nat) (v : V), v.size ≤ n → v.ord → v.plain → stripN n v = v
 | 0, v, h, _, _ => by have := v.size_pos; omega
 | n + 1, v, h, ho, hp => by
  have hve := v.size_eq
  rw [stripN]
  split
  ·rename_i h5
   have hv := ((V.ord_eq v).1 ho).1 h5
   have hp2 : (vMap v.m).plain := by rw [← hv]; exact hp
   rw [plain_map] at hp2
   have key : ∀ m : List (ByteArray × V), (∀ p ∈ m, p.2.kind ≠ 0 ∧ stripN n p.2 = p.2) → stripM (stripN n) m = m := by
    intro m
    induction m with
    | nil => intro _; rfl
    | cons p m ih =>
     intro hm
     obtain ⟨h1, h2⟩ := hm p (by simp)
     rw [stripM, List.filterMap_cons, if_neg h1]
     show (p.1, stripN n p.2) :: stripM (stripN n) m = _
     rw [ih fun q hq => hm q (by simp [hq]), h2]
   rw [key v.m fun p hpm => ⟨(hp2 p hpm).1, strip_same n p.2 (by have := mem_sizeM hpm; omega) (((V.ord_eq v).1 ho).2.2.2 p hpm) (hp2 p hpm).2⟩]
   exact hv.symm
  ·rfl
theorem mergeO_mem {f : V → V → V} {q : ByteArray × V} : ∀ {a b : List (ByteArray × V)}, q ∈ mergeO f a b → q ∈ a ∨ ∃ x z, (q.1, x) ∈ b ∧ x.kind ≠ 0 ∧ q.2 = f z x ∧ (z = V.null ∨ ∃ k, (k, z) ∈ a)
 | [], [], h => by rw [mergeO] at h; cases h
 | [], (k, x) :: b, h => by
  rw [mergeO] at h
  have ih := @mergeO_mem f q [] b
  have up : q ∈ mergeO f [] b → q ∈ ([] : List (ByteArray × V)) ∨ ∃ y z, (q.1, y) ∈ (k, x) :: b ∧ y.kind ≠ 0 ∧ q.2 = f z y ∧ (z = V.null ∨ ∃ k', (k', z) ∈ ([] : List (ByteArray × V))) := fun h => by
   rcases ih h with h | ⟨y, z, h1, h2⟩
   ·exact Or.inl h
   ·exact Or.inr ⟨y, z, List.mem_cons_of_mem (k, x) h1, h2⟩
  split at h
  ·exact up h
  ·rename_i hk
   rcases List.mem_cons.1 h with rfl | h
   ·exact .inr ⟨x, V.null, by simp, hk, rfl, .inl rfl⟩
   ·exact up h
 | (ka, xa) :: a, [], h => by
  rw [mergeO] at h
  rcases List.mem_cons.1 h with rfl | h
  ·exact .inl (by simp)
  ·rcases @mergeO_mem f q a [] h with h | ⟨y, z, h1, _⟩
   ·exact .inl (by simp [h])
   ·cases h1
 | (ka, xa) :: a, (k, x) :: b, h => by
  rw [mergeO] at h
  have up1 : q ∈ mergeO f a ((k, x) :: b) → q ∈ (ka, xa) :: a ∨ ∃ y z, (q.1, y) ∈ (k, x) :: b ∧ y.kind ≠ 0 ∧ q.2 = f z y ∧ (z = V.null ∨ ∃ k', (k', z) ∈ (ka, xa) :: a) := fun h => by
   rcases @mergeO_mem f q a ((k, x) :: b) h with h | ⟨y, z, h1, h2, h3, h4⟩
   ·exact Or.inl (List.mem_cons_of_mem (ka, xa) h)
   ·exact Or.inr ⟨y, z, h1, h2, h3, h4.imp id fun ⟨k', hk'⟩ => ⟨k', List.mem_cons_of_mem (ka, xa) hk'⟩⟩
  have up2 : q ∈ mergeO f a b → q ∈ (ka, xa) :: a ∨ ∃ y z, (q.1, y) ∈ (k, x) :: b ∧ y.kind ≠ 0 ∧ q.2 = f z y ∧ (z = V.null ∨ ∃ k', (k', z) ∈ (ka, xa) :: a) := fun h => by
   rcases @mergeO_mem f q a b h with h | ⟨y, z, h1, h2, h3, h4⟩
   ·exact Or.inl (List.mem_cons_of_mem (ka, xa) h)
   ·exact Or.inr ⟨y, z, List.mem_cons_of_mem (k, x) h1, h2, h3, h4.imp id fun ⟨k', hk'⟩ => ⟨k', List.mem_cons_of_mem (ka, xa) hk'⟩⟩
  have up3 : q ∈ mergeO f ((ka, xa) :: a) b → q ∈ (ka, xa) :: a ∨ ∃ y z, (q.1, y) ∈ (k, x) :: b ∧ y.kind ≠ 0 ∧ q.2 = f z y ∧ (z = V.null ∨ ∃ k', (k', z) ∈ (ka, xa) :: a) := fun h => by
   rcases @mergeO_mem f q ((ka, xa) :: a) b h with h | ⟨y, z, h1, h2, h3, h4⟩
   ·exact Or.inl h
   ·exact Or.inr ⟨y, z, List.mem_cons_of_mem (k, x) h1, h2, h3, h4⟩
  split at h
  ·rcases List.mem_cons.1 h with rfl | h
   ·exact .inl (by simp)
   ·exact up1 h
  ·split at h
   ·rename_i e
    subst e
    split at h
    ·exact up2 h
    ·rename_i hk
     rcases List.mem_cons.1 h with rfl | h
     ·exact .inr ⟨x, xa, by simp, hk, rfl, .inr ⟨ka, by simp⟩⟩
     ·exact up2 h
   ·split at h
    ·exact up3 h
    ·rename_i hk
     rcases List.mem_cons.1 h with rfl | h
     ·exact .inr ⟨x, V.null, by simp, hk, rfl, .inl rfl⟩
     ·exact up3 h
termination_by a b => a.length + b.length
theorem over_kind (n : Nat) (a b : V) : (overN n a b).kind = b.kind := by
 cases n with
 | zero => rfl
 | succ n =>
  rw [overN]
  split
  ·rename_i h
   rw [h.2]
   rfl
  ·exact strip_kind _ _
theorem over_plain : ∀ (n : Nat) (a b : V), b.size ≤ n → a.plain → (overN n a b).plain
 | 0, a, b, h, _ => by have := b.size_pos; omega
 | n + 1, a, b, h, hp => by
  have hve := b.size_eq
  rw [overN]
  split
  ·rename_i h5
   rw [plain_map]
   intro q hq
   have hpa : ∀ p ∈ a.m, p.2.kind ≠ 0 ∧ p.2.plain := fun p hpm => ⟨(hp 1 h5.1 p hpm).1, fun k => (hp (k + 1) h5.1 p hpm).2⟩
   rcases mergeO_mem hq with h1 | ⟨x, z, h1, h2, h3, h4⟩
   ·exact hpa q h1
   ·have := mem_sizeM h1
    rw [h3, over_kind]
    refine ⟨h2, over_plain n z x (by dsimp only at this; omega) ?_⟩
    rcases h4 with rfl | ⟨k, hk⟩
    ·exact plain_other (by decide)
    ·exact (hpa _ hk).2
  ·exact strip_plain _ _ h
theorem mergeO_nil {f : V → V → V} : ∀ b : List (ByteArray × V), mergeO f [] b = stripM (fun x => f V.null x) b
 | [] => by rw [mergeO]; rfl
 | (k, x) :: b => by
  rw [mergeO, mergeO_nil b, stripM, stripM, List.filterMap_cons]
  split
  ·rfl
  ·rfl
theorem over_null (n : Nat) (x : V) : overN n V.null x = stripN n x := by
 cases n with
 | zero => rfl
 | succ n =>
  rw [overN, if_neg]
  rintro ⟨h, _⟩
  exact absurd h (by decide)
theorem over_empty (n : Nat) (b : V) (h5 : b.kind = 5) : overN (n + 1) (vMap []) b = stripN (n + 1) b := by
 rw [overN, if_pos ⟨rfl, h5⟩, stripN, if_pos h5]
 show vMap (mergeO (overN n) [] b.m) = _
 rw [mergeO_nil]
 congr 1
 have : (fun x => overN n V.null x) = stripN n := funext fun x => over_null n x
 rw [this]
theorem wM_cons (k : ByteArray) (x : V) (m : List (ByteArray × V)) : wM ((k, x) :: m) = x.w + k.size + wM m := by rw [wM]
theorem vMap_w2 (m : List (ByteArray × V)) : (vMap m).w = 1 + wM m := by
 rw [V.w_eq]
 show 1 + 0 + wL [] + wM m = _
 rw [wL]
theorem strip_w : ∀ (n : Nat) (v : V), v.size ≤ n → (stripN n v).w ≤ v.w
 | 0, v, h => by have := v.size_pos; omega
 | n + 1, v, h => by
  have hve := v.size_eq
  have hwe := v.w_eq
  rw [stripN]
  split
  ·rw [vMap_w2]
   have key : ∀ m : List (ByteArray × V), (∀ p ∈ m, (stripN n p.2).w ≤ p.2.w) → wM (stripM (stripN n) m) ≤ wM m := by
    intro m
    induction m with
    | nil => intro _; exact Nat.le_refl _
    | cons p m ih =>
     intro hm
     obtain ⟨k, x⟩ := p
     have h1 : (stripN n x).w ≤ x.w := hm (k, x) (by simp)
     have h2 := ih fun q hq => hm q (by simp [hq])
     rw [wM_cons, stripM, List.filterMap_cons]
     dsimp only
     split
     ·rename_i e
      split at e
      ·unfold stripM at h2
       omega
      ·cases e
     ·rename_i q e
      split at e
      ·cases e
      ·cases e
       rw [wM_cons]
       unfold stripM at h2
       omega
   have := key v.m fun p hp => strip_w n p.2 (by have := mem_sizeM hp; omega)
   omega
  ·exact Nat.le_refl _
theorem mergeO_w {f : V → V → V} : ∀ {a b : List (ByteArray × V)}, (∀ p ∈ b, (f V.null p.2).w ≤ p.2.w) → (∀ q ∈ a, ∀ p ∈ b, (f q.2 p.2).w ≤ q.2.w + p.2.w) → wM (mergeO f a b) ≤ wM a + wM b
 | [], [], _, _ => by rw [mergeO]; exact Nat.zero_le _
 | [], (k, x) :: b, h1, h2 => by
  have ih := mergeO_w (f := f) (a := []) (b := b) (fun p hp => h1 p (List.mem_cons_of_mem _ hp)) (fun q hq => by cases hq)
  have hx : (f V.null x).w ≤ x.w := h1 (k, x) (by simp)
  rw [mergeO, wM_cons]
  split
  ·omega
  ·rw [wM_cons]; omega
 | (ka, xa) :: a, [], h1, h2 => by
  have ih := mergeO_w (f := f) (a := a) (b := []) (fun p hp => by cases hp) (fun q hq p hp => by cases hp)
  rw [mergeO, wM_cons, wM_cons]
  omega
 | (ka, xa) :: a, (k, x) :: b, h1, h2 => by
  have hx : (f V.null x).w ≤ x.w := h1 (k, x) (by simp)
  have hxa : (f xa x).w ≤ xa.w + x.w := h2 (ka, xa) (by simp) (k, x) (by simp)
  have i1 := mergeO_w (f := f) (a := a) (b := (k, x) :: b) h1 (fun q hq p hp => h2 q (List.mem_cons_of_mem _ hq) p hp)
  have i2 := mergeO_w (f := f) (a := a) (b := b) (fun p hp => h1 p (List.mem_cons_of_mem _ hp)) (fun q hq p hp => h2 q (List.mem_cons_of_mem _ hq) p (List.mem_cons_of_mem _ hp))
  have i3 := mergeO_w (f := f) (a := (ka, xa) :: a) (b := b) (fun p hp => h1 p (List.mem_cons_of_mem _ hp)) (fun q hq p hp => h2 q hq p (List.mem_cons_of_mem _ hp))
  rw [wM_cons] at i1 i3
  rw [mergeO, wM_cons, wM_cons]
  split
  ·rw [wM_cons]; omega
  ·split
   ·split
    ·omega
    ·rw [wM_cons]; omega
   ·split
    ·omega
    ·rw [wM_cons]; omega
termination_by a b => a.length + b.length
theorem over_w : ∀ (n : Nat) (a b : V), b.size ≤ n → (overN n a b).w ≤ a.w + b.w
 | 0, a, b, h => by have := b.size_pos; omega
 | n + 1, a, b, h => by
  have hve := b.size_eq
  have hwa := a.w_eq
  have hwb := b.w_eq
  rw [overN]
  split
  ·rw [vMap_w2]
   have := mergeO_w (f := overN n) (a := a.m) (b := b.m) (fun p hp => by
    rw [over_null]
    exact strip_w n p.2 (by have := mem_sizeM hp; omega)) (fun q hq p hp => over_w n q.2 p.2 (by have := mem_sizeM hp; omega))
   omega
  ·have := strip_w (n + 1) b h
   omega
end Go.Proofs.YtnpkejnaeemgjaaGreatDoor
namespace Go.Proofs.YtnpkejnaeemgjaaGreatDoor
set_option maxRecDepth 100000
def b_law11_right : ACode :=
 .seq (gQ [gP 1 0, ⟨gO, .mov 2 (.k (.bool false))⟩]) (.seq (gQ [gA 3 6 1, ⟨gO, .bsl 4 1 6 gZ [(0, 6, .s 3)]⟩, gC 5 10 [.s 4], gM 6 5, ⟨some (6, true), .off 7 0 (.s 1)⟩, ⟨some (6, true), .ld 8 1 false (.s 7)⟩, ⟨some (6, true), .bin 9 .eql false (.s 8) (gI 5)⟩, ⟨gO, .pick 10 (.s 6) (.s 9) (.k (.bool false))⟩, gM 2 10]) .ret)
def a_law11_right : AFn := ⟨1, 11, b_law11_right, [.tmp 2]⟩
theorem a_law11_right_ok : fnAF Tryz.prog [] Tryz.f5 = some a_law11_right := by kernel_rfl
theorem a_law11_right_cb : callable Tryz.prog 5 = true := by kernel_rfl
def b_law11_awake : ACode :=
 .seq (gQ [⟨gO, .mov 0 (.k (.bool false))⟩]) (.seq (gQ [gC 6 23 [gI 1], ⟨gO, .build 7 [.str ⟨#[]⟩, .int .i64 0, .bool false, .int .i64 0, .str ⟨#[]⟩, .lst .nil 6 [], .lst .nil 7 []] [(0, 1, gS ⟨#[97]⟩), (1, 6, .s 6)]⟩, ⟨gO, .bsl 8 1 7 [.str ⟨#[]⟩, .int .i64 0, .bool false, .int .i64 0, .str ⟨#[]⟩, .lst .nil 6 [], .lst .nil 7 []] [(0, 7, .s 7)]⟩, gC 9 22 [.s 8], ⟨gO, .call (some 10) (.k (.fn 21 [])) [.s 9, gS ⟨#[98, 46, 99, 61, 120]⟩]⟩, gM 5 10, gX 11 0 5, gX 12 1 5, ⟨gO, .alloc 1 gZ⟩, gT 6 1 11, gM 2 12]) (.seq (gQ [gA 14 6 1, ⟨gO, .call (some 15) (.k (.fn 24 [])) [.s 14, gS ⟨#[98]⟩]⟩, gM 13 15, gX 16 0 13, gX 17 1 13, ⟨gO, .alloc 3 gZ⟩, gT 6 3 16, gM 4 17]) (.seq (gQ [gM 18 2, gU 19 .eql 18 0, gM 20 19, gN 20 true 21 4, ⟨gO, .pick 22 (.s 20) (.s 21) (.k (.bool false))⟩, gM 23 22, ⟨some (23, true), .off 24 5 (.s 1)⟩, ⟨some (23, true), .ld 25 1 false (.s 24)⟩, ⟨some (23, true), .len 26 false (.s 25)⟩, ⟨some (23, true), .bin 27 .eql false (.s 26) (gI 2)⟩, ⟨gO, .pick 28 (.s 23) (.s 27) (.k (.bool false))⟩, gM 29 28, ⟨some (29, true), .off 30 5 (.s 3)⟩, ⟨some (29, true), .ld 31 1 false (.s 30)⟩, ⟨some (29, true), .len 32 false (.s 31)⟩, ⟨some (29, true), .bin 33 .eql false (.s 32) (gI 1)⟩, ⟨gO, .pick 34 (.s 29) (.s 33) (.k (.bool false))⟩, gM 35 34, ⟨some (35, true), .off 36 5 (.s 3)⟩, ⟨some (35, true), .ld 37 1 false (.s 36)⟩, ⟨some (35, true), .idx 38 7 (.s 37) (gI 0)⟩, ⟨some (35, true), .off 39 1 (.s 38)⟩, ⟨some (35, true), .off 40 3 (.s 39)⟩, ⟨some (35, true), .ld 41 1 false (.s 40)⟩, ⟨some (35, true), .bin 42 .eql false (.s 41) (gS ⟨#[120]⟩)⟩, ⟨gO, .pick 43 (.s 35) (.s 42) (.k (.bool false))⟩, gM 0 43]) .ret)))
def a_law11_awake : AFn := ⟨0, 44, b_law11_awake, [.tmp 0]⟩
theorem a_law11_awake_ok : fnAF Tryz.prog [] Tryz.f7 = some a_law11_awake := by kernel_rfl
theorem a_law11_awake_cb : callable Tryz.prog 7 = true := by kernel_rfl
def b_ref02_Word : ACode :=
 .seq (gQ [⟨gO, .mov 2 (.k (.bool false))⟩]) (.seq (.seq (gQ [gJ 3 0]) (.block 0 (.loop (.seq (.seq (gQ [gM 5 3, gM 6 0, gH 7 true 6, gV 8 .lss 5 7]) (.cond (.s 8) .skip (.exit 0))) (.seq (.block 1 (.seq (gQ [gM 11 0, gM 12 3, ⟨gO, .bidx 13 (.s 11) (.s 12)⟩, gM 4 13]) (.seq (gQ [gM 14 4, ⟨gO, gB 15 .geq (.s 14) (.k (.int .u8 97))⟩, gM 16 15, gN 16 true 17 4, ⟨some (16, true), .bin 18 .leq false (.s 17) (.k (.int .u8 122))⟩, ⟨gO, .pick 19 (.s 16) (.s 18) (.k (.bool false))⟩, ⟨gO, .un 20 .not (.s 19)⟩, gM 21 20, gN 21 true 22 4, ⟨some (21, true), .bin 23 .geq false (.s 22) (.k (.int .u8 65))⟩, gN 21 true 24 23, gN 24 true 25 4, ⟨some (24, true), .bin 26 .leq false (.s 25) (.k (.int .u8 90))⟩, ⟨some (21, true), .pick 27 (.s 24) (.s 26) (.k (.bool false))⟩, ⟨some (21, true), .un 28 .not (.s 27)⟩, ⟨gO, .pick 29 (.s 21) (.s 28) (.k (.bool false))⟩, gM 30 29, gN 30 true 31 4, ⟨some (30, true), .bin 32 .geq false (.s 31) (.k (.int .u8 48))⟩, gN 30 true 33 32, gN 33 true 34 4, ⟨some (33, true), .bin 35 .leq false (.s 34) (.k (.int .u8 57))⟩, ⟨some (30, true), .pick 36 (.s 33) (.s 35) (.k (.bool false))⟩, ⟨some (30, true), .un 37 .not (.s 36)⟩, ⟨gO, .pick 38 (.s 30) (.s 37) (.k (.bool false))⟩, gM 39 38, gN 39 true 40 4, ⟨some (39, true), .bin 41 .neq false (.s 40) (.k (.int .u8 95))⟩, ⟨gO, .pick 42 (.s 39) (.s 41) (.k (.bool false))⟩, gM 43 42, gN 43 true 44 4, ⟨some (43, true), .bin 45 .neq false (.s 44) (.k (.int .u8 45))⟩, ⟨gO, .pick 46 (.s 43) (.s 45) (.k (.bool false))⟩]) (.cond (.s 46) (.seq (gQ [⟨gO, .mov 2 (.k (.bool false))⟩]) .ret) .skip)))) (.reg [gM 9 3, gU 10 .add 9 1, gM 3 10])))))) (.seq (gQ [gM 47 0, gH 48 true 47, gU 49 .gtr 48 0, gM 50 49, gN 50 true 51 0, ⟨some (50, true), .len 52 true (.s 51)⟩, ⟨some (50, true), .bin 53 .leq false (.s 52) (gI 256)⟩, ⟨gO, .pick 54 (.s 50) (.s 53) (.k (.bool false))⟩, gM 2 54]) .ret))
def a_ref02_Word : AFn := ⟨1, 55, b_ref02_Word, [.tmp 2]⟩
end Go.Proofs.YtnpkejnaeemgjaaGreatDoor
