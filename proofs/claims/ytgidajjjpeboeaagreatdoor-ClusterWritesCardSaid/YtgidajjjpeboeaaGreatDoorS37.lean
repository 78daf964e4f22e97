/-
  The texts that the claim wants, one behind the other: part 37.
-/
import Derived.Test.YtgidajjjpeboeaaGreatDoorS36
import Derived.Test.YtgidajjjpeboeaaGreatDoorChecked
import Derived.KernelRfl
set_option linter.unusedSimpArgs false
set_option linter.unusedVariables false
namespace Go.Proofs.YtgidajjjpeboeaaGreatDoor
set_option maxRecDepth 100000
def b_ref16_New : ACode :=
 .seq (gQ [⟨gO, .mov 0 (.k (.raw (Value.pointer none)))⟩]) (.seq (gQ [⟨gO, .build 1 [.lst .nil 10 [], .int .i64 0, .lst .nil 1 [], .int .i64 0, .bool false, .int .i64 0, .int .i64 0, .int .i64 0, .int .i64 0, .int .i64 0] [(3, 1, .k (.int .i64 (-1)))]⟩, gP 2 1, gM 0 2]) .ret)
def a_ref16_New : AFn := ⟨0, 3, b_ref16_New, [.tmp 0]⟩
theorem a_ref16_New_ok : fnAF Tryz.prog [2000030, 2000067, 2000068, 2000069, 2000066, 2000031, 2000029, 2000032, 2000033, 2000034, 2000010] Tryz.f10 = some a_ref16_New := by kernel_rfl
theorem a_ref16_New_cb : callable Tryz.prog 10 = true := by kernel_rfl
def b_ref16_Cluster_Copy : ACode :=
 .seq (gQ [⟨gO, .mov 2 (.k (.raw (Value.pointer none)))⟩]) (.seq (gQ [gM 4 0, gF 5 0 4, gA 6 10 5, ⟨gO, .alloc 3 [.lst .nil 10 [], .int .i64 0, .lst .nil 1 [], .int .i64 0, .bool false, .int .i64 0, .int .i64 0, .int .i64 0, .int .i64 0, .int .i64 0]⟩, gT 10 3 6]) (.seq (gQ [gF 7 0 3, ⟨gO, .st 1 (.s 7) (.k (.lst .nil 10 []))⟩]) (.seq (gQ [gF 8 0 3, gL 9 8, gM 10 0, gF 11 0 10, gF 12 0 11, gL 13 12, ⟨gO, .app 14 10 144 (.s 9) (.s 13)⟩, gF 15 0 3, gT 1 15 14]) (.seq (gQ [gF 16 2 3, ⟨gO, .st 1 (.s 16) (.k (.lst .nil 1 []))⟩]) (.seq (gQ [gF 17 2 3, gL 18 17, gM 19 0, gF 20 0 19, gF 21 2 20, gL 22 21, ⟨gO, .app 23 1 8 (.s 18) (.s 22)⟩, gF 24 2 3, gT 1 24 23]) (.seq (gQ [gM 2 3]) .ret))))))
def a_ref16_Cluster_Copy : AFn := ⟨1, 25, b_ref16_Cluster_Copy, [.tmp 2]⟩
theorem a_ref16_Cluster_Copy_ok : fnAF Tryz.prog [2000030, 2000067, 2000068, 2000069, 2000066, 2000031, 2000029, 2000032, 2000033, 2000034, 2000010] Tryz.f30 = some a_ref16_Cluster_Copy := by kernel_rfl
theorem a_ref16_Cluster_Copy_cb : callable Tryz.prog 30 = true := by kernel_rfl
def b_ref16_Cluster_place : ACode :=
 .seq (gQ [gP 3 1, gJ 4 0, ⟨gO, .mov 5 (.k (.bool false))⟩]) (.seq (.seq (gQ [gJ 6 0]) (.block 0 (.loop (.seq (.seq (gQ [gM 7 6, gM 8 0, gF 9 0 8, gF 10 0 9, gL 11 10, gH 12 false 11, gV 13 .lss 7 12]) (.cond (.s 13) .skip (.exit 0))) (.seq (.block 1 (.seq (.seq (gQ [gM 16 0, gF 17 0 16, gF 18 0 17, gL 19 18, gM 20 6, gE 21 10 19 20, gF 22 0 21, gA 23 3 22, gA 24 3 3, ⟨gO, .eqs 25 false 24 (.s 23) (.s 24)⟩]) (.cond (.s 25) (.seq (gQ [gM 26 6, gM 4 26, ⟨gO, .mov 5 (.k (.bool true))⟩]) .ret) .skip)) (.seq (gQ [gM 27 0, gF 28 0 27, gF 29 0 28, gL 30 29, gM 31 6, gE 32 10 30 31, gF 33 0 32, gA 34 3 33, gA 35 3 3, gC 36 108 [.s 34, .s 35], ⟨gO, .un 37 .not (.s 36)⟩]) (.cond (.s 37) (.seq (gQ [gM 38 6, gM 4 38, ⟨gO, .mov 5 (.k (.bool false))⟩]) .ret) .skip)))) (.reg [gM 14 6, gU 15 .add 14 1, gM 6 15])))))) (.seq (gQ [gM 39 0, gF 40 0 39, gF 41 0 40, gL 42 41, gH 43 false 42, gM 4 43, ⟨gO, .mov 5 (.k (.bool false))⟩]) .ret))
def a_ref16_Cluster_place : AFn := ⟨2, 44, b_ref16_Cluster_place, [.tmp 4, .tmp 5]⟩
theorem a_ref16_Cluster_place_ok : fnAF Tryz.prog [2000030, 2000067, 2000068, 2000069, 2000066, 2000031, 2000029, 2000032, 2000033, 2000034, 2000010] Tryz.f67 = some a_ref16_Cluster_place := by kernel_rfl
theorem a_ref16_Cluster_place_cb : callable Tryz.prog 67 = true := by kernel_rfl
def b_ref16_Cluster_put : ACode :=
 .seq (gQ [gP 4 1, gP 5 2]) (.seq (gQ [gM 9 0, gF 10 0 9, gF 11 1 10, gL 12 11, gU 13 .add 12 1, gF 14 0 9, gF 15 1 14, gT 1 15 13]) (.seq (gQ [gM 17 0, gA 18 3 4, ⟨gO, .calls (some 19) (.k (.fn 67 [])) [.s 17, .s 18]⟩, gM 16 19, gX 20 0 16, gX 21 1 16, gM 6 20, gM 7 21]) (.seq (gQ [⟨gO, .mov 8 (.k (.lst .nil 10 []))⟩]) (.seq (gQ [gM 22 8, gM 23 0, gF 24 0 23, gF 25 0 24, gL 26 25, gM 27 6, ⟨gO, .sub 28 false 10 (.s 26) none (some (.s 27))⟩, ⟨gO, .app 29 10 144 (.s 22) (.s 28)⟩, gM 8 29]) (.seq (gQ [gM 30 8, gA 31 3 4, gA 32 6 5, gM 33 0, gF 34 0 33, gF 35 1 34, gL 36 35, ⟨gO, .build 37 [.str ⟨#[]⟩, .str ⟨#[]⟩, .str ⟨#[]⟩, .int .i64 0, .bool false, .int .i64 0, .str ⟨#[]⟩, .lst .nil 6 [], .lst .nil 7 [], .int .i64 0] [(0, 3, .s 31), (3, 6, .s 32), (9, 1, .s 36)]⟩, ⟨gO, .bsl 38 1 10 [.str ⟨#[]⟩, .str ⟨#[]⟩, .str ⟨#[]⟩, .int .i64 0, .bool false, .int .i64 0, .str ⟨#[]⟩, .lst .nil 6 [], .lst .nil 7 [], .int .i64 0] [(0, 10, .s 37)]⟩, ⟨gO, .app 39 10 144 (.s 30) (.s 38)⟩, gM 8 39]) (.seq (.seq (gQ [gM 40 7]) (.cond (.s 40) (.reg [gM 41 6, gU 42 .add 41 1, gM 6 42]) .skip)) (.reg [gM 43 0, gM 44 8, gM 45 0, gF 46 0 45, gF 47 0 46, gL 48 47, gM 49 6, ⟨gO, .sub 50 false 10 (.s 48) (some (.s 49)) none⟩, ⟨gO, .app 51 10 144 (.s 44) (.s 50)⟩, gF 52 0 43, gF 53 0 52, gT 1 53 51])))))))
def a_ref16_Cluster_put : AFn := ⟨3, 54, b_ref16_Cluster_put, []⟩
theorem a_ref16_Cluster_put_ok : fnAF Tryz.prog [2000030, 2000067, 2000068, 2000069, 2000066, 2000031, 2000029, 2000032, 2000033, 2000034, 2000010] Tryz.f68 = some a_ref16_Cluster_put := by kernel_rfl
theorem a_ref16_Cluster_put_cb : callable Tryz.prog 68 = true := by kernel_rfl
def b_ref16_Cluster_gone : ACode :=
 .seq (gQ [gP 3 1]) (.seq (gQ [⟨gO, .mov 4 (.k (.lst .nil 10 []))⟩]) (.seq (.seq (gQ [gJ 5 0]) (.block 0 (.loop (.seq (.seq (gQ [gM 6 5, gM 7 0, gF 8 0 7, gF 9 0 8, gL 10 9, gH 11 false 10, gV 12 .lss 6 11]) (.cond (.s 12) .skip (.exit 0))) (.seq (.block 1 (.seq (gQ [gM 15 0, gF 16 0 15, gF 17 0 16, gL 18 17, gM 19 5, gE 20 10 18 19, gF 21 0 20, gA 22 3 21, gA 23 3 3, ⟨gO, .eqs 24 true 24 (.s 22) (.s 23)⟩]) (.cond (.s 24) (.reg [gM 25 4, gM 26 0, gF 27 0 26, gF 28 0 27, gL 29 28, gM 30 5, gE 31 10 29 30, gA 32 10 31, ⟨gO, .bsl 33 1 10 [.str ⟨#[]⟩, .str ⟨#[]⟩, .str ⟨#[]⟩, .int .i64 0, .bool false, .int .i64 0, .str ⟨#[]⟩, .lst .nil 6 [], .lst .nil 7 [], .int .i64 0] [(0, 10, .s 32)]⟩, ⟨gO, .app 34 10 144 (.s 25) (.s 33)⟩, gM 4 34]) .skip))) (.reg [gM 13 5, gU 14 .add 13 1, gM 5 14])))))) (.reg [gM 35 0, gM 36 4, gF 37 0 35, gF 38 0 37, gT 1 38 36])))
def a_ref16_Cluster_gone : AFn := ⟨2, 39, b_ref16_Cluster_gone, []⟩
theorem a_ref16_Cluster_gone_ok : fnAF Tryz.prog [2000030, 2000067, 2000068, 2000069, 2000066, 2000031, 2000029, 2000032, 2000033, 2000034, 2000010] Tryz.f69 = some a_ref16_Cluster_gone := by kernel_rfl
theorem a_ref16_Cluster_gone_cb : callable Tryz.prog 69 = true := by kernel_rfl
def b_ref16_Cluster_write : ACode :=
 .seq (gQ [gJ 2 0]) (.seq (.seq (gQ [gM 6 0, gF 7 0 6, gF 8 4 7, gL 9 8, gM 10 9, gN 10 false 11 0, ⟨some (10, false), .off 12 0 (.s 11)⟩, ⟨some (10, false), .off 13 3 (.s 12)⟩, ⟨some (10, false), .ld 14 1 false (.s 13)⟩, ⟨some (10, false), .bin 15 .eql false (.s 14) (gI 0)⟩, ⟨gO, .pick 16 (.s 10) (.k (.bool true)) (.s 15)⟩]) (.cond (.s 16) (.seq (gQ [gM 17 0, gF 18 0 17, gF 19 4 18, ⟨gO, .st 1 (.s 19) (.k (.bool true))⟩]) (.seq (gQ [gJ 2 31]) .ret)) .skip)) (.seq (.seq (gQ [gM 20 0, gF 21 0 20, gF 22 3 21, gL 23 22, gU 24 .gtr 23 0]) (.cond (.s 24) (.reg [gM 25 0, gF 26 0 25, gF 27 3 26, gL 28 27, gU 29 .sub 28 1, gF 30 0 25, gF 31 3 30, gT 1 31 29]) .skip)) (.seq (gQ [⟨gO, .mov 3 (.k (.bool false))⟩]) (.seq (gQ [⟨gO, .mov 4 (.k (.lst .nil 1 []))⟩]) (.seq (.seq (gQ [gJ 5 0]) (.block 0 (.loop (.seq (.seq (gQ [gM 32 5, gM 33 0, gF 34 0 33, gF 35 2 34, gL 36 35, gH 37 false 36, gV 38 .lss 32 37]) (.cond (.s 38) .skip (.exit 0))) (.seq (.block 1 (.seq (.seq (gQ [gM 41 0, gF 42 0 41, gF 43 2 42, gL 44 43, gM 45 5, gE 46 1 44 45, gL 47 46, gU 48 .eql 47 0]) (.cond (.s 48) (.reg [⟨gO, .mov 3 (.k (.bool true))⟩]) .skip)) (.seq (gQ [gM 49 0, gF 50 0 49, gF 51 2 50, gL 52 51, gM 53 5, gE 54 1 52 53, gL 55 54, gU 56 .gtr 55 0]) (.cond (.s 56) (.reg [gM 57 4, gM 58 0, gF 59 0 58, gF 60 2 59, gL 61 60, gM 62 5, gE 63 1 61 62, gL 64 63, gU 65 .sub 64 1, ⟨gO, .bsl 66 1 1 [.int .i64 0] [(0, 1, .s 65)]⟩, ⟨gO, .app 67 1 8 (.s 57) (.s 66)⟩, gM 4 67]) .skip)))) (.reg [gM 39 5, gU 40 .add 39 1, gM 5 40])))))) (.seq (gQ [gM 68 0, gM 69 4, gF 70 0 68, gF 71 2 70, gT 1 71 69]) (.seq (.seq (gQ [gM 72 3]) (.cond (.s 72) (.seq (gQ [gM 73 0, gF 74 0 73, gF 75 5 74, ⟨gO, .offi 76 5 1 (.s 75) (gI 4)⟩, gL 77 76, gU 78 .add 77 1, gF 79 0 73, gF 80 5 79, ⟨gO, .offi 81 5 1 (.s 80) (gI 4)⟩, gT 1 81 78]) (.seq (gQ [gJ 2 30]) .ret)) .skip)) (.seq (gQ [gJ 2 0]) .ret))))))))
def a_ref16_Cluster_write : AFn := ⟨1, 82, b_ref16_Cluster_write, [.tmp 2]⟩
theorem a_ref16_Cluster_write_ok : fnAF Tryz.prog [2000030, 2000067, 2000068, 2000069, 2000066, 2000031, 2000029, 2000032, 2000033, 2000034, 2000010] Tryz.f66 = some a_ref16_Cluster_write := by kernel_rfl
theorem a_ref16_Cluster_write_cb : callable Tryz.prog 66 = true := by kernel_rfl
def b_ref16_wrong : ACode :=
 .seq (gQ [gP 2 0, gP 3 1, gJ 4 0]) (.seq (.seq (gQ [gA 5 3 2, gC 6 106 [.s 5], ⟨gO, .un 7 .not (.s 6)⟩]) (.cond (.s 7) (.seq (gQ [gJ 4 26]) .ret) .skip)) (.seq (gQ [gA 8 6 3, gC 9 107 [.s 8], gM 4 9]) .ret))
def a_ref16_wrong : AFn := ⟨2, 10, b_ref16_wrong, [.tmp 4]⟩
theorem a_ref16_wrong_ok : fnAF Tryz.prog [2000030, 2000067, 2000068, 2000069, 2000066, 2000031, 2000029, 2000032, 2000033, 2000034, 2000010] Tryz.f65 = some a_ref16_wrong := by kernel_rfl
theorem a_ref16_wrong_cb : callable Tryz.prog 65 = true := by kernel_rfl
def b_ref16_Cluster_Get : ACode :=
 .seq (gQ [gP 3 1, ⟨gO, .alloc 4 gZ⟩, gJ 5 0, gJ 6 0]) (.seq (.seq (gQ [gM 9 0, gF 10 0 9, gF 11 4 10, gL 12 11]) (.cond (.s 12) (.seq (gQ [⟨gO, .build 13 gZ []⟩, gT 6 4 13, gJ 5 0, gJ 6 31]) .ret) .skip)) (.seq (gQ [gM 14 0, gF 15 0 14, gF 16 5 15, ⟨gO, .offi 17 5 1 (.s 16) (gI 0)⟩, gL 18 17, gU 19 .add 18 1, gF 20 0 14, gF 21 5 20, ⟨gO, .offi 22 5 1 (.s 21) (gI 0)⟩, gT 1 22 19]) (.seq (gQ [gM 24 0, gA 25 3 3, ⟨gO, .calls (some 26) (.k (.fn 67 [])) [.s 24, .s 25]⟩, gM 23 26, gX 27 0 23, gX 28 1 23, gM 7 27, gM 8 28]) (.seq (.seq (gQ [gM 29 8, ⟨gO, .un 30 .not (.s 29)⟩]) (.cond (.s 30) (.seq (gQ [⟨gO, .build 31 gZ []⟩, gT 6 4 31, gJ 5 0, gJ 6 3]) .ret) .skip)) (.seq (.rega [gM 32 0, gF 33 0 32, gF 34 0 33, gL 35 34, gM 36 7, gE 37 10 35 36, gF 38 3 37, gA 39 6 38, gM 40 0, gF 41 0 40, gF 42 0 41, gL 43 42, gM 44 7, gE 45 10 43 44, gF 46 9 45, gL 47 46, gT 6 4 39, gM 5 47, gJ 6 0] [[], [0], [1], [2], [], [3, 4], [5], [6], [], [8], [9], [10], [], [11, 12], [13], [14], [7, 0, 1, 2, 3, 4, 5, 6, 7], [15, 16, 0, 1, 2, 3, 4, 5, 6, 7, 8, 9, 10, 11, 12, 13, 14, 15, 16], [17, 0, 1, 2, 3, 4, 5, 6, 7, 8, 9, 10, 11, 12, 13, 14, 15, 16, 17]]) .ret)))))
def a_ref16_Cluster_Get : AFn := ⟨2, 48, b_ref16_Cluster_Get, [.cell 4 6 true, .tmp 5, .tmp 6]⟩
theorem a_ref16_Cluster_Get_ok : fnAF Tryz.prog [2000030, 2000067, 2000068, 2000069, 2000066, 2000031, 2000029, 2000032, 2000033, 2000034, 2000010] Tryz.f31 = some a_ref16_Cluster_Get := by kernel_rfl
theorem a_ref16_Cluster_Get_cb : callable Tryz.prog 31 = true := by kernel_rfl
def b_ref16_Cluster_Create : ACode :=
 .seq (gQ [gP 4 1, gP 5 2, gJ 6 0]) (.seq (.seq (gQ [gA 11 3 4, gA 12 6 5, gC 13 65 [.s 11, .s 12], gM 7 13]) (.seq (gQ [gM 14 7, gU 15 .neq 14 0]) (.cond (.s 15) (.seq (gQ [gM 16 7, gM 6 16]) .ret) .skip))) (.seq (.seq (gQ [gM 17 0, ⟨gO, .calls (some 18) (.k (.fn 66 [])) [.s 17]⟩, gM 8 18]) (.seq (gQ [gM 19 8, gU 20 .neq 19 0]) (.cond (.s 20) (.seq (gQ [gM 21 8, gM 6 21]) .ret) .skip))) (.seq (.seq (gQ [gM 23 0, gA 24 3 4, ⟨gO, .calls (some 25) (.k (.fn 67 [])) [.s 23, .s 24]⟩, gM 22 25, gX 26 0 22, gX 27 1 22, gM 9 26, gM 10 27]) (.seq (gQ [gM 28 10]) (.cond (.s 28) (.seq (gQ [gJ 6 4]) .ret) .skip))) (.seq (gQ [gM 29 0, gF 30 0 29, gF 31 5 30, ⟨gO, .offi 32 5 1 (.s 31) (gI 1)⟩, gL 33 32, gU 34 .add 33 1, gF 35 0 29, gF 36 5 35, ⟨gO, .offi 37 5 1 (.s 36) (gI 1)⟩, gT 1 37 34]) (.seq (gQ [gM 38 0, gA 39 3 4, gA 40 6 5, ⟨gO, .calls (some 41) (.k (.fn 68 [])) [.s 38, .s 39, .s 40]⟩]) (.seq (gQ [gJ 6 0]) .ret))))))
def a_ref16_Cluster_Create : AFn := ⟨3, 42, b_ref16_Cluster_Create, [.tmp 6]⟩
theorem a_ref16_Cluster_Create_ok : fnAF Tryz.prog [2000030, 2000067, 2000068, 2000069, 2000066, 2000031, 2000029, 2000032, 2000033, 2000034, 2000010] Tryz.f29 = some a_ref16_Cluster_Create := by kernel_rfl
theorem a_ref16_Cluster_Create_cb : callable Tryz.prog 29 = true := by kernel_rfl
def b_ref16_Cluster_Patch : ACode :=
 .seq (gQ [gP 5 1, gP 7 3, gJ 8 0]) (.seq (.seq (gQ [gA 13 3 5, gA 14 6 7, gC 15 65 [.s 13, .s 14], gM 9 15]) (.seq (gQ [gM 16 9, gU 17 .neq 16 0]) (.cond (.s 17) (.seq (gQ [gM 18 9, gM 8 18]) .ret) .skip))) (.seq (.seq (gQ [gM 19 0, ⟨gO, .calls (some 20) (.k (.fn 66 [])) [.s 19]⟩, gM 10 20]) (.seq (gQ [gM 21 10, gU 22 .neq 21 0]) (.cond (.s 22) (.seq (gQ [gM 23 10, gM 8 23]) .ret) .skip))) (.seq (gQ [gM 25 0, gA 26 3 5, ⟨gO, .calls (some 27) (.k (.fn 67 [])) [.s 25, .s 26]⟩, gM 24 27, gX 28 0 24, gX 29 1 24, gM 11 28, gM 12 29]) (.seq (.seq (gQ [gM 30 12, ⟨gO, .un 31 .not (.s 30)⟩]) (.cond (.s 31) (.seq (gQ [gJ 8 3]) .ret) .skip)) (.seq (.seq (gQ [gM 32 0, gF 33 0 32, gF 34 0 33, gL 35 34, gM 36 11, gE 37 10 35 36, gF 38 9 37, gL 39 38, gM 40 2, gV 41 .neq 39 40]) (.cond (.s 41) (.seq (gQ [gJ 8 32]) .ret) .skip)) (.seq (gQ [gM 42 0, gF 43 0 42, gF 44 5 43, ⟨gO, .offi 45 5 1 (.s 44) (gI 2)⟩, gL 46 45, gU 47 .add 46 1, gF 48 0 42, gF 49 5 48, ⟨gO, .offi 50 5 1 (.s 49) (gI 2)⟩, gT 1 50 47]) (.seq (gQ [gM 51 0, gA 52 3 5, gA 53 6 7, ⟨gO, .calls (some 54) (.k (.fn 68 [])) [.s 51, .s 52, .s 53]⟩]) (.seq (gQ [gJ 8 0]) .ret))))))))
def a_ref16_Cluster_Patch : AFn := ⟨4, 55, b_ref16_Cluster_Patch, [.tmp 8]⟩
theorem a_ref16_Cluster_Patch_ok : fnAF Tryz.prog [2000030, 2000067, 2000068, 2000069, 2000066, 2000031, 2000029, 2000032, 2000033, 2000034, 2000010] Tryz.f32 = some a_ref16_Cluster_Patch := by kernel_rfl
theorem a_ref16_Cluster_Patch_cb : callable Tryz.prog 32 = true := by kernel_rfl
def b_ref16_Cluster_Delete : ACode :=
 .seq (gQ [gP 3 1, gJ 4 0]) (.seq (.seq (gQ [gM 8 0, ⟨gO, .calls (some 9) (.k (.fn 66 [])) [.s 8]⟩, gM 5 9]) (.seq (gQ [gM 10 5, gU 11 .neq 10 0]) (.cond (.s 11) (.seq (gQ [gM 12 5, gM 4 12]) .ret) .skip))) (.seq (.seq (gQ [gM 14 0, gA 15 3 3, ⟨gO, .calls (some 16) (.k (.fn 67 [])) [.s 14, .s 15]⟩, gM 13 16, gX 17 0 13, gX 18 1 13, gM 6 17, gM 7 18]) (.seq (gQ [gM 19 7, ⟨gO, .un 20 .not (.s 19)⟩]) (.cond (.s 20) (.seq (gQ [gJ 4 3]) .ret) .skip))) (.seq (gQ [gM 21 0, gF 22 0 21, gF 23 5 22, ⟨gO, .offi 24 5 1 (.s 23) (gI 3)⟩, gL 25 24, gU 26 .add 25 1, gF 27 0 21, gF 28 5 27, ⟨gO, .offi 29 5 1 (.s 28) (gI 3)⟩, gT 1 29 26]) (.seq (gQ [gM 30 0, gA 31 3 3, ⟨gO, .calls (some 32) (.k (.fn 69 [])) [.s 30, .s 31]⟩]) (.seq (gQ [gJ 4 0]) .ret)))))
def a_ref16_Cluster_Delete : AFn := ⟨2, 33, b_ref16_Cluster_Delete, [.tmp 4]⟩
theorem a_ref16_Cluster_Delete_ok : fnAF Tryz.prog [2000030, 2000067, 2000068, 2000069, 2000066, 2000031, 2000029, 2000032, 2000033, 2000034, 2000010] Tryz.f33 = some a_ref16_Cluster_Delete := by kernel_rfl
theorem a_ref16_Cluster_Delete_cb : callable Tryz.prog 33 = true := by kernel_rfl
def b_ref16_Cluster_Edit : ACode :=
 .seq (gQ [gP 4 1, gP 5 2, gJ 6 0]) (.seq (.seq (gQ [gA 8 3 4, gA 9 6 5, gC 10 65 [.s 8, .s 9], gM 7 10]) (.seq (gQ [gM 11 7, gU 12 .neq 11 0]) (.cond (.s 12) (.seq (gQ [gM 13 7, gM 6 13]) .ret) .skip))) (.seq (.seq (gQ [gF 14 0 5, gL 15 14, gU 16 .eql 15 0]) (.cond (.s 16) (.reg [gM 17 0, gA 18 3 4, ⟨gO, .calls (some 19) (.k (.fn 69 [])) [.s 17, .s 18]⟩]) (.reg [gM 20 0, gA 21 3 4, gA 22 6 5, ⟨gO, .calls (some 23) (.k (.fn 68 [])) [.s 20, .s 21, .s 22]⟩]))) (.seq (gQ [gJ 6 0]) .ret)))
def a_ref16_Cluster_Edit : AFn := ⟨3, 24, b_ref16_Cluster_Edit, [.tmp 6]⟩
theorem a_ref16_Cluster_Edit_ok : fnAF Tryz.prog [2000030, 2000067, 2000068, 2000069, 2000066, 2000031, 2000029, 2000032, 2000033, 2000034, 2000010] Tryz.f34 = some a_ref16_Cluster_Edit := by kernel_rfl
theorem a_ref16_Cluster_Edit_cb : callable Tryz.prog 34 = true := by kernel_rfl
end Go.Proofs.YtgidajjjpeboeaaGreatDoor
namespace Go.Proofs.YtgidajjjpeboeaaGreatDoor
set_option maxRecDepth 100000
def b_ref12_Same : ACode :=
 .seq (gQ [⟨gO, .mov 4 (.k (.bool false))⟩]) (.seq (.seq (gQ [gM 6 0, gH 7 false 6, gM 8 1, gH 9 false 8, gV 10 .neq 7 9]) (.cond (.s 10) (.seq (gQ [⟨gO, .mov 4 (.k (.bool false))⟩]) .ret) .skip)) (.seq (.seq (gQ [gJ 5 0]) (.block 0 (.loop (.seq (.seq (gQ [gM 11 5, gM 12 0, gH 13 false 12, gV 14 .lss 11 13]) (.cond (.s 14) .skip (.exit 0))) (.seq (.block 1 (.seq (gQ [gM 17 0, gM 18 5, gE 19 9 17 18, gF 20 0 19, gA 21 3 20, gM 22 1, gM 23 5, gE 24 9 22 23, gF 25 0 24, gA 26 3 25, ⟨gO, .eqs 27 true 24 (.s 21) (.s 26)⟩, gM 28 27, gN 28 false 29 0, gN 28 false 30 5, ⟨some (28, false), .idx 31 9 (.s 29) (.s 30)⟩, ⟨some (28, false), .off 32 3 (.s 31)⟩, ⟨some (28, false), .ld 33 6 true (.s 32)⟩, gN 28 false 34 1, gN 28 false 35 5, ⟨some (28, false), .idx 36 9 (.s 34) (.s 35)⟩, ⟨some (28, false), .off 37 3 (.s 36)⟩, ⟨some (28, false), .ld 38 6 true (.s 37)⟩, ⟨some (28, false), .call (some 39) (.k (.fn 35 [])) [.s 33, .s 38]⟩, ⟨some (28, false), .un 40 .not (.s 39)⟩, ⟨gO, .pick 41 (.s 28) (.k (.bool true)) (.s 40)⟩]) (.cond (.s 41) (.seq (gQ [⟨gO, .mov 4 (.k (.bool false))⟩]) .ret) .skip))) (.reg [gM 15 5, gU 16 .add 15 1, gM 5 16])))))) (.seq (gQ [⟨gO, .mov 4 (.k (.bool true))⟩]) .ret)))
def a_ref12_Same : AFn := ⟨2, 42, b_ref12_Same, [.tmp 4]⟩
theorem a_ref12_Same_ok : fnAF Tryz.prog [] Tryz.f15 = some a_ref12_Same := by kernel_rfl
theorem a_ref12_Same_cb : callable Tryz.prog 15 = true := by kernel_rfl
def b_ref12_Right : ACode :=
 .seq (gQ [gP 1 0, ⟨gO, .mov 2 (.k (.bool false))⟩]) (.seq (gQ [gF 3 0 1, gL 4 3, gC 5 164 [.s 4], gM 6 5, ⟨some (6, true), .off 7 1 (.s 1)⟩, ⟨some (6, true), .ld 8 1 false (.s 7)⟩, ⟨some (6, true), .call (some 9) (.k (.fn 164 [])) [.s 8]⟩, ⟨gO, .pick 10 (.s 6) (.s 9) (.k (.bool false))⟩, gM 11 10, ⟨some (11, true), .off 12 2 (.s 1)⟩, ⟨some (11, true), .ld 13 1 false (.s 12)⟩, ⟨some (11, true), .call (some 14) (.k (.fn 164 [])) [.s 13]⟩, ⟨gO, .pick 15 (.s 11) (.s 14) (.k (.bool false))⟩, gM 2 15]) .ret)
def a_ref12_Right : AFn := ⟨1, 16, b_ref12_Right, [.tmp 2]⟩
theorem a_ref12_Right_ok : fnAF Tryz.prog [] Tryz.f106 = some a_ref12_Right := by kernel_rfl
theorem a_ref12_Right_cb : callable Tryz.prog 106 = true := by kernel_rfl
def b_ref12_Word : ACode :=
 .seq (gQ [⟨gO, .mov 2 (.k (.bool false))⟩]) (.seq (.seq (gQ [gJ 3 0]) (.block 0 (.loop (.seq (.seq (gQ [gM 4 3, gM 5 0, gH 6 true 5, gV 7 .lss 4 6]) (.cond (.s 7) .skip (.exit 0))) (.seq (.block 1 (.seq (gQ [gM 10 0, gM 11 3, ⟨gO, .bidx 12 (.s 10) (.s 11)⟩, ⟨gO, gB 13 .eql (.s 12) (.k (.int .u8 47))⟩]) (.cond (.s 13) (.seq (gQ [⟨gO, .mov 2 (.k (.bool false))⟩]) .ret) .skip))) (.reg [gM 8 3, gU 9 .add 8 1, gM 3 9])))))) (.seq (gQ [gM 14 0, gC 15 101 [.s 14], gM 16 15, gN 16 true 17 0, ⟨some (16, true), .len 18 true (.s 17)⟩, ⟨some (16, true), .bin 19 .leq false (.s 18) (gI 64)⟩, ⟨gO, .pick 20 (.s 16) (.s 19) (.k (.bool false))⟩, gM 2 20]) .ret))
def a_ref12_Word : AFn := ⟨1, 21, b_ref12_Word, [.tmp 2]⟩
theorem a_ref12_Word_ok : fnAF Tryz.prog [] Tryz.f164 = some a_ref12_Word := by kernel_rfl
theorem a_ref12_Word_cb : callable Tryz.prog 164 = true := by kernel_rfl
end Go.Proofs.YtgidajjjpeboeaaGreatDoor
namespace Go.Proofs.YtgidajjjpeboeaaGreatDoor
open Go.RowKit
theorem refWordOk_a (s : ByteArray) (hs : s.size ≤ 140737488355328) : AC Tryz.prog 164 [.str s] (.bool (wordOkB s)) := by
 have hB := refBare_a s hs
 refine kE Tryz.func164 a_ref12_Word_ok a_ref12_Word_cb fun E hE => ?_
 refine kW ?_
 refine AK.loopI (fun k : Nat => (frOf [(0, .str s), (3, .int .i64 k)], ⟨boxOf [], fun _ => 0⟩)) (fun k => k ≤ s.size ∧ ∀ j, (h : j < s.size) → j < k → s[j].toNat ≠ 47) (fun k => s.size - k) 0 ⟨by omega, fun j h h2 => by omega⟩ (Weak.intro ⟨kI, kI, trivial⟩ trivial rfl rfl) fun k ⟨hk, hno⟩ => ?_
 refine kW ?_
 refine kC (fun hb => ?_) fun hb => ?_
 ·have hlt : k < s.size := by simpa using hb
  refine kW ?_
  refine kQ [] ?_
  rw [show s.data.getD (k : Int).toNat 0 = s[k] from byte_at hlt]
  refine kC (fun hb => ?_) fun hb => ?_
  ·have hf : s[k].toNat = 47 := by have h : ((s[k].toNat : Nat) : Int) = 47 := by simpa using hb
                                   omega
   refine kW ?_
   refine AK.ret ⟨_, rfl, ?_⟩
   rw [wordOkB, noSl_no hlt hf]
   rfl
  ·have hf : s[k].toNat ≠ 47 := by have h : ¬ ((s[k].toNat : Nat) : Int) = 47 := by simpa using hb
                                   omega
   refine kW ?_
   exact AK.lp ⟨k + 1, ⟨by omega, fun j h h2 => by
    by_cases e : j = k
    ·subst e; exact hf
    ·exact hno j h (by omega)⟩, Weak.intro ⟨kI, kU, trivial⟩ trivial rfl rfl, by omega⟩
 ·have hlt : s.size ≤ k := by simpa using hb
  have hall : noSl s = true := decide_eq_true fun j h => hno j h (by omega)
  refine AK.exit rfl ?_
  refine kW ?_
  refine kQ [.v (.bool (bareB s))] ?_
  refine kW ?_
  refine AK.ret ⟨_, rfl, ?_⟩
  refine congrArg AV.bool ?_
  rw [wordOkB, hall]
  cases bareB s <;> simp <;> omega
theorem refRight_a (a b c : ByteArray) (ha : a.size ≤ 140737488355328) (hb : b.size ≤ 140737488355328) (hc : c.size ≤ 140737488355328) : AC Tryz.prog 106 [.agg [.str a, .str b, .str c]] (.bool (wordOkB a && wordOkB b && wordOkB c)) := by
 have h1 := refWordOk_a a ha
 have h2 := refWordOk_a b hb
 have h3 := refWordOk_a c hc
 refine kE Tryz.func106 a_ref12_Right_ok a_ref12_Right_cb fun E hE => ?_
 refine kW ?_
 refine kQ [.v (.bool (wordOkB a)), .v (.bool (wordOkB b)), .v (.bool (wordOkB c))] ?_
 refine kW ?_
 refine AK.ret ⟨_, rfl, ?_⟩
 cases wordOkB a <;> cases wordOkB b <;> rfl
end Go.Proofs.YtgidajjjpeboeaaGreatDoor
