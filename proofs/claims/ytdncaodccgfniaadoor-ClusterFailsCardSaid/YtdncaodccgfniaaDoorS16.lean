/-
  The texts that the claim wants, one behind the other: part 16.
-/
import Derived.Test.YtdncaodccgfniaaDoorS15
import Derived.Test.YtdncaodccgfniaaDoorChecked
import Derived.KernelRfl
set_option linter.unusedSimpArgs false
set_option linter.unusedVariables false
namespace Go.Proofs.YtdncaodccgfniaaDoor
set_option maxRecDepth 100000
def b_cluster_New : ACode :=
 .seq (gQ [⟨gO, .mov 2 (.k (.raw (Value.pointer none)))⟩]) (.seq (gQ [⟨gO, .mop (MO.new 46) (some 3) []⟩, gM 4 0, ⟨gO, .build 5 [.raw (Value.map none), .int .i64 0, .lst .nil 1 [], .int .i64 0, .bool false, .raw (Value.pointer none)] [(0, 1, .s 3), (3, 1, .k (.int .i64 (-1))), (5, 1, .s 4)]⟩, gP 6 5, gM 2 6]) .ret)
def a_cluster_New : AFn := ⟨1, 7, b_cluster_New, [.tmp 2]⟩
theorem a_cluster_New_ok : fnAF Tryd.prog [2000007, 2000012, 2000014, 2000011, 2000017, 2000019, 2000013, 2000008, 2000015, 2000010, 2000006] Tryd.f6 = some a_cluster_New := by kernel_rfl
theorem a_cluster_New_cb : callable Tryd.prog 6 = true := by kernel_rfl
def b_cluster_Cluster_Down : ACode :=
 .seq (gQ [⟨gO, .mov 2 (.k (.bool false))⟩]) (.seq (gQ [gM 3 0, ⟨gO, .eqs 4 true 24 (.s 3) (.k (.raw (Value.pointer none)))⟩, gM 5 4, gN 5 true 6 0, ⟨some (5, true), .off 7 0 (.s 6)⟩, ⟨some (5, true), .off 8 4 (.s 7)⟩, ⟨some (5, true), .ld 9 1 false (.s 8)⟩, ⟨gO, .pick 10 (.s 5) (.s 9) (.k (.bool false))⟩, gM 2 10]) .ret)
def a_cluster_Cluster_Down : AFn := ⟨1, 11, b_cluster_Cluster_Down, [.tmp 2]⟩
theorem a_cluster_Cluster_Down_ok : fnAF Tryd.prog [2000007, 2000012, 2000014, 2000011, 2000017, 2000019, 2000013, 2000008, 2000015, 2000010, 2000006] Tryd.f11 = some a_cluster_Cluster_Down := by kernel_rfl
theorem a_cluster_Cluster_Down_cb : callable Tryd.prog 11 = true := by kernel_rfl
def b_cluster_Cluster_write : ACode :=
 .seq (gQ [gJ 2 0]) (.seq (.block 0 (.seq (gQ [gM 8 0, ⟨gO, .eqs 9 false 24 (.s 8) (.k (.raw (Value.pointer none)))⟩, gM 7 9]) (.cond (.s 7) (.seq (gQ [gJ 2 2]) .ret) (.seq (gQ [gM 11 0, gF 12 0 11, gF 13 4 12, gL 14 13, gM 15 14, gN 15 false 16 0, ⟨some (15, false), .off 17 0 (.s 16)⟩, ⟨some (15, false), .off 18 3 (.s 17)⟩, ⟨some (15, false), .ld 19 1 false (.s 18)⟩, ⟨some (15, false), .bin 20 .eql false (.s 19) (gI 0)⟩, ⟨gO, .pick 21 (.s 15) (.k (.bool true)) (.s 20)⟩, gM 10 21]) (.cond (.s 10) (.seq (gQ [gM 22 0, gF 23 0 22, gF 24 4 23, ⟨gO, .st 1 (.s 24) (.k (.bool true))⟩]) (.seq (gQ [gJ 2 31]) .ret)) (.seq (gQ [gM 26 0, gF 27 0 26, gF 28 3 27, gL 29 28, gU 30 .gtr 29 0, gM 25 30]) (.cond (.s 25) (.reg [gM 31 0, gF 32 0 31, gF 33 3 32, gL 34 33, gU 35 .sub 34 1, gF 36 0 31, gF 37 3 36, gT 1 37 35]) .skip))))))) (.seq (gQ [gM 38 0, gF 39 0 38, gF 40 2 39, gL 41 40, gC 42 29 [.s 41, gI 0], gM 3 42]) (.seq (gQ [⟨gO, .mov 4 (.k (.lst .nil 1 []))⟩]) (.seq (.seq (gQ [gM 43 0, gF 44 0 43, gF 45 2 44, gL 46 45, gH 47 false 46, gJ 48 0]) (.block 1 (.loop (.seq (gQ [gV 49 .lss 48 47]) (.seq (.cond (.s 49) .skip (.exit 1)) (.seq (.block 2 (.seq (gQ [gE 50 1 46 48, gL 51 50, gM 6 51]) (.seq (gQ [gM 52 6, gU 53 .gtr 52 0]) (.cond (.s 53) (.reg [gM 54 4, gM 55 6, gU 56 .sub 55 1, ⟨gO, .bsl 57 1 1 [.int .i64 0] [(0, 1, .s 56)]⟩, ⟨gO, .app 58 1 8 (.s 54) (.s 57)⟩, gM 4 58]) .skip)))) (.reg [gU 59 .add 48 1, gM 48 59]))))))) (.seq (gQ [gM 60 0, gM 61 4, gF 62 0 60, gF 63 2 62, gT 1 63 61]) (.seq (.seq (gQ [gM 64 3]) (.cond (.s 64) (.seq (gQ [gM 65 0, gF 66 0 65, gF 67 5 66, gL 68 67, gC 69 18 [.s 68, gI 4]]) (.seq (gQ [gJ 2 30]) .ret)) .skip)) (.seq (gQ [gJ 2 0]) .ret)))))))
def a_cluster_Cluster_write : AFn := ⟨1, 70, b_cluster_Cluster_write, [.tmp 2]⟩
theorem a_cluster_Cluster_write_ok : fnAF Tryd.prog [2000007, 2000012, 2000014, 2000011, 2000017, 2000019, 2000013, 2000008, 2000015, 2000010, 2000006] Tryd.f17 = some a_cluster_Cluster_write := by kernel_rfl
theorem a_cluster_Cluster_write_cb : callable Tryd.prog 17 = true := by kernel_rfl
def b_cluster_Cluster_put : ACode :=
 .seq (gQ [gP 4 1, gP 5 2]) (.seq (gQ [gM 6 0, gF 7 0 6, gF 8 1 7, gL 9 8, gU 10 .add 9 1, gF 11 0 6, gF 12 1 11, gT 1 12 10]) (.reg [gM 13 0, gF 14 0 13, gF 15 0 14, gL 16 15, gA 17 3 4, gA 18 6 5, gC 19 22 [.s 18], gM 20 0, gF 21 0 20, gF 22 1 21, gL 23 22, ⟨gO, .build 24 [.int .i64 0, .bool false, .int .i64 0, .str ⟨#[]⟩, .lst .nil 6 [], .lst .nil 7 [], .int .i64 0] [(0, 6, .s 19), (6, 1, .s 23)]⟩, ⟨gO, .mop (MO.set 46) none [.s 16, .s 17, .s 24]⟩]))
def a_cluster_Cluster_put : AFn := ⟨3, 25, b_cluster_Cluster_put, []⟩
theorem a_cluster_Cluster_put_ok : fnAF Tryd.prog [2000007, 2000012, 2000014, 2000011, 2000017, 2000019, 2000013, 2000008, 2000015, 2000010, 2000006] Tryd.f19 = some a_cluster_Cluster_put := by kernel_rfl
theorem a_cluster_Cluster_put_cb : callable Tryd.prog 19 = true := by kernel_rfl
def b_cluster_wrong : ACode :=
 .seq (gQ [gP 2 0, gP 3 1, gJ 4 0]) (.seq (.seq (gQ [gA 5 3 2, gC 6 27 [.s 5], ⟨gO, .un 7 .not (.s 6)⟩]) (.cond (.s 7) (.seq (gQ [gJ 4 26]) .ret) .skip)) (.seq (gQ [gA 8 6 3, gC 9 28 [.s 8], gM 4 9]) .ret))
def a_cluster_wrong : AFn := ⟨2, 10, b_cluster_wrong, [.tmp 4]⟩
theorem a_cluster_wrong_ok : fnAF Tryd.prog [2000007, 2000012, 2000014, 2000011, 2000017, 2000019, 2000013, 2000008, 2000015, 2000010, 2000006] Tryd.f16 = some a_cluster_wrong := by kernel_rfl
theorem a_cluster_wrong_cb : callable Tryd.prog 16 = true := by kernel_rfl
def b_cluster_Cluster_Get : ACode :=
 .seq (gQ [gP 3 1, ⟨gO, .alloc 4 gZ⟩, gJ 5 0, gJ 6 0]) (.seq (.block 0 (.seq (gQ [gM 10 0, ⟨gO, .eqs 11 false 24 (.s 10) (.k (.raw (Value.pointer none)))⟩, gM 9 11]) (.cond (.s 9) (.seq (gQ [⟨gO, .build 12 gZ []⟩, gT 6 4 12, gJ 5 0, gJ 6 2]) .ret) (.seq (gQ [gM 14 0, gF 15 0 14, gF 16 4 15, gL 17 16, gM 13 17]) (.cond (.s 13) (.seq (gQ [⟨gO, .build 18 gZ []⟩, gT 6 4 18, gJ 5 0, gJ 6 31]) .ret) .skip))))) (.seq (gQ [gM 19 0, gF 20 0 19, gF 21 5 20, gL 22 21, gC 23 18 [.s 22, gI 0]]) (.seq (.rega [gM 25 0, gF 26 0 25, gF 27 0 26, gL 28 27, gA 29 3 3, ⟨gO, .mop (MO.get 46 true) (some 30) [.s 28, .s 29]⟩, gM 24 30, gX 31 0 24, gX 32 1 24, ⟨gO, .alloc 7 [.int .i64 0, .bool false, .int .i64 0, .str ⟨#[]⟩, .lst .nil 6 [], .lst .nil 7 [], .int .i64 0]⟩, gT 7 7 31, gM 8 32] [[], [0], [1], [2], [], [3, 4], [5], [6], [6], [], [9, 7, 0, 1, 2, 3, 4, 5, 6, 7, 9], [8, 10, 0, 1, 2, 3, 4, 5, 6, 7, 8, 9, 10]]) (.seq (.seq (gQ [gM 33 8, ⟨gO, .un 34 .not (.s 33)⟩]) (.cond (.s 34) (.seq (gQ [⟨gO, .build 35 gZ []⟩, gT 6 4 35, gJ 5 0, gJ 6 3]) .ret) .skip)) (.seq (.rega [gF 36 0 7, gA 37 6 36, gC 38 22 [.s 37], gF 39 6 7, gL 40 39, gT 6 4 38, gM 5 40, gJ 6 0] [[], [0], [1], [], [3], [2, 2, 0, 1, 2], [4, 5, 0, 1, 2, 3, 4, 5], [6, 0, 1, 2, 3, 4, 5, 6]]) .ret)))))
def a_cluster_Cluster_Get : AFn := ⟨2, 41, b_cluster_Cluster_Get, [.cell 4 6 true, .tmp 5, .tmp 6]⟩
theorem a_cluster_Cluster_Get_ok : fnAF Tryd.prog [2000007, 2000012, 2000014, 2000011, 2000017, 2000019, 2000013, 2000008, 2000015, 2000010, 2000006] Tryd.f13 = some a_cluster_Cluster_Get := by kernel_rfl
theorem a_cluster_Cluster_Get_cb : callable Tryd.prog 13 = true := by kernel_rfl
def b_cluster_Cluster_Create : ACode :=
 .seq (gQ [gP 4 1, gP 5 2, gJ 6 0]) (.seq (.seq (gQ [gA 11 3 4, gA 12 6 5, gC 13 16 [.s 11, .s 12], gM 7 13]) (.seq (gQ [gM 14 7, gU 15 .neq 14 0]) (.cond (.s 15) (.seq (gQ [gM 16 7, gM 6 16]) .ret) .skip))) (.seq (.seq (gQ [gM 17 0, ⟨gO, .calls (some 18) (.k (.fn 17 [])) [.s 17]⟩, gM 8 18]) (.seq (gQ [gM 19 8, gU 20 .neq 19 0]) (.cond (.s 20) (.seq (gQ [gM 21 8, gM 6 21]) .ret) .skip))) (.seq (.seq (.rega [gM 23 0, gF 24 0 23, gF 25 0 24, gL 26 25, gA 27 3 4, ⟨gO, .mop (MO.get 46 true) (some 28) [.s 26, .s 27]⟩, gM 22 28, gX 29 0 22, gX 30 1 22, ⟨gO, .alloc 9 [.int .i64 0, .bool false, .int .i64 0, .str ⟨#[]⟩, .lst .nil 6 [], .lst .nil 7 [], .int .i64 0]⟩, gT 7 9 29, gM 10 30] [[], [0], [1], [2], [], [3, 4], [5], [6], [6], [], [9, 7, 0, 1, 2, 3, 4, 5, 6, 7, 9], [8, 10, 0, 1, 2, 3, 4, 5, 6, 7, 8, 9, 10]]) (.seq (gQ [gM 31 10]) (.cond (.s 31) (.seq (gQ [gJ 6 4]) .ret) .skip))) (.seq (gQ [gM 32 0, gF 33 0 32, gF 34 5 33, gL 35 34, gC 36 18 [.s 35, gI 1]]) (.seq (gQ [gM 37 0, gA 38 3 4, gA 39 6 5, ⟨gO, .calls (some 40) (.k (.fn 19 [])) [.s 37, .s 38, .s 39]⟩]) (.seq (gQ [gJ 6 0]) .ret))))))
def a_cluster_Cluster_Create : AFn := ⟨3, 41, b_cluster_Cluster_Create, [.tmp 6]⟩
theorem a_cluster_Cluster_Create_ok : fnAF Tryd.prog [2000007, 2000012, 2000014, 2000011, 2000017, 2000019, 2000013, 2000008, 2000015, 2000010, 2000006] Tryd.f8 = some a_cluster_Cluster_Create := by kernel_rfl
theorem a_cluster_Cluster_Create_cb : callable Tryd.prog 8 = true := by kernel_rfl
def b_cluster_Cluster_Patch : ACode :=
 .seq (gQ [gP 5 1, gP 7 3, gJ 8 0]) (.seq (.seq (gQ [gA 13 3 5, gA 14 6 7, gC 15 16 [.s 13, .s 14], gM 9 15]) (.seq (gQ [gM 16 9, gU 17 .neq 16 0]) (.cond (.s 17) (.seq (gQ [gM 18 9, gM 8 18]) .ret) .skip))) (.seq (.seq (gQ [gM 19 0, ⟨gO, .calls (some 20) (.k (.fn 17 [])) [.s 19]⟩, gM 10 20]) (.seq (gQ [gM 21 10, gU 22 .neq 21 0]) (.cond (.s 22) (.seq (gQ [gM 23 10, gM 8 23]) .ret) .skip))) (.seq (.rega [gM 25 0, gF 26 0 25, gF 27 0 26, gL 28 27, gA 29 3 5, ⟨gO, .mop (MO.get 46 true) (some 30) [.s 28, .s 29]⟩, gM 24 30, gX 31 0 24, gX 32 1 24, ⟨gO, .alloc 11 [.int .i64 0, .bool false, .int .i64 0, .str ⟨#[]⟩, .lst .nil 6 [], .lst .nil 7 [], .int .i64 0]⟩, gT 7 11 31, gM 12 32] [[], [0], [1], [2], [], [3, 4], [5], [6], [6], [], [9, 7, 0, 1, 2, 3, 4, 5, 6, 7, 9], [8, 10, 0, 1, 2, 3, 4, 5, 6, 7, 8, 9, 10]]) (.seq (.block 0 (.seq (gQ [gM 34 12, ⟨gO, .un 35 .not (.s 34)⟩, gM 33 35]) (.cond (.s 33) (.seq (gQ [gJ 8 3]) .ret) (.seq (gQ [gF 37 6 11, gL 38 37, gM 39 2, gV 40 .neq 38 39, gM 36 40]) (.cond (.s 36) (.seq (gQ [gJ 8 32]) .ret) .skip))))) (.seq (gQ [gM 41 0, gF 42 0 41, gF 43 5 42, gL 44 43, gC 45 18 [.s 44, gI 2]]) (.seq (gQ [gM 46 0, gA 47 3 5, gA 48 6 7, ⟨gO, .calls (some 49) (.k (.fn 19 [])) [.s 46, .s 47, .s 48]⟩]) (.seq (gQ [gJ 8 0]) .ret)))))))
def a_cluster_Cluster_Patch : AFn := ⟨4, 50, b_cluster_Cluster_Patch, [.tmp 8]⟩
theorem a_cluster_Cluster_Patch_ok : fnAF Tryd.prog [2000007, 2000012, 2000014, 2000011, 2000017, 2000019, 2000013, 2000008, 2000015, 2000010, 2000006] Tryd.f15 = some a_cluster_Cluster_Patch := by kernel_rfl
theorem a_cluster_Cluster_Patch_cb : callable Tryd.prog 15 = true := by kernel_rfl
def b_meter_Meter_Add : ACode :=
 .seq (gQ [gJ 4 0]) (.seq (.seq (gQ [gM 5 0, ⟨gO, .eqs 6 false 45 (.s 5) (.k (.raw (Value.pointer none)))⟩, gM 7 6, gN 7 false 8 1, ⟨some (7, false), .bin 9 .lss false (.s 8) (gI 0)⟩, ⟨gO, .pick 10 (.s 7) (.k (.bool true)) (.s 9)⟩, gM 11 10, gN 11 false 12 1, ⟨some (11, false), .bin 13 .geq false (.s 12) (gI 5)⟩, ⟨gO, .pick 14 (.s 11) (.k (.bool true)) (.s 13)⟩]) (.cond (.s 14) (.seq (gQ [gJ 4 0]) .ret) .skip)) (.seq (gQ [gM 15 0, gM 16 1, gF 17 0 15, gF 18 0 17, ⟨gO, .offi 19 5 1 (.s 18) (.s 16)⟩, gC 20 30 [.s 19, gI 1], gM 4 20]) .ret))
def a_meter_Meter_Add : AFn := ⟨2, 21, b_meter_Meter_Add, [.tmp 4]⟩
theorem a_meter_Meter_Add_ok : fnAF Tryd.prog [2000007, 2000012, 2000014, 2000011, 2000017, 2000019, 2000013, 2000008, 2000015, 2000010, 2000006] Tryd.f18 = some a_meter_Meter_Add := by kernel_rfl
theorem a_meter_Meter_Add_cb : callable Tryd.prog 18 = true := by kernel_rfl
def b_slices_Contains_int : ACode :=
 .seq (gQ [⟨gO, .mov 4 (.k (.bool false))⟩]) (.seq (gQ [gM 5 0, gM 6 1, gC 7 47 [.s 5, .s 6], gU 8 .geq 7 0, gM 4 8]) .ret)
def a_slices_Contains_int : AFn := ⟨2, 9, b_slices_Contains_int, [.tmp 4]⟩
theorem a_slices_Contains_int_ok : fnAF Tryd.prog [2000007, 2000012, 2000014, 2000011, 2000017, 2000019, 2000013, 2000008, 2000015, 2000010, 2000006] Tryd.f29 = some a_slices_Contains_int := by kernel_rfl
theorem a_slices_Contains_int_cb : callable Tryd.prog 29 = true := by kernel_rfl
def b_slices_Index_int : ACode :=
 .seq (gQ [gJ 4 0]) (.seq (.seq (gQ [gM 6 0, gH 7 false 6, gJ 8 0]) (.block 0 (.loop (.seq (gQ [gV 9 .lss 8 7]) (.seq (.cond (.s 9) .skip (.exit 0)) (.seq (.block 1 (.seq (gQ [gM 10 8, gM 5 10]) (.seq (gQ [gM 11 1, gM 12 0, gM 13 5, gE 14 1 12 13, gL 15 14, gV 16 .eql 11 15]) (.cond (.s 16) (.seq (gQ [gM 17 5, gM 4 17]) .ret) .skip)))) (.reg [gU 18 .add 8 1, gM 8 18]))))))) (.seq (gQ [⟨gO, .mov 4 (.k (.int .i64 (-1)))⟩]) .ret))
def a_slices_Index_int : AFn := ⟨2, 19, b_slices_Index_int, [.tmp 4]⟩
theorem a_slices_Index_int_ok : fnAF Tryd.prog [2000007, 2000012, 2000014, 2000011, 2000017, 2000019, 2000013, 2000008, 2000015, 2000010, 2000006] Tryd.f47 = some a_slices_Index_int := by kernel_rfl
theorem a_slices_Index_int_cb : callable Tryd.prog 47 = true := by kernel_rfl
def b_law16_awake : ACode :=
 .seq (gQ [⟨gO, .mov 0 (.k (.bool false))⟩]) (.seq (gQ [⟨gO, .calls (some 7) (.k (.fn 6 [])) [.k (.raw (Value.pointer none))]⟩, gM 1 7]) (.seq (gQ [⟨gO, .build 8 [.str ⟨#[]⟩, .str ⟨#[]⟩, .str ⟨#[]⟩] [(0, 1, gS ⟨#[65]⟩), (1, 1, gS ⟨#[98]⟩), (2, 1, gS ⟨#[99]⟩)]⟩, ⟨gO, .alloc 2 [.str ⟨#[]⟩, .str ⟨#[]⟩, .str ⟨#[]⟩]⟩, gT 3 2 8]) (.seq (gQ [gM 9 1, gA 10 3 2, ⟨gO, .call (some 11) (.k (.fn 9 [])) [.k (.lst .nil 7 [])]⟩, ⟨gO, .calls (some 12) (.k (.fn 8 [])) [.s 9, .s 10, .s 11]⟩, gM 3 12]) (.seq (gQ [gM 14 1, gA 15 3 2, ⟨gO, .calls (some 16) (.k (.fn 13 [])) [.s 14, .s 15]⟩, gM 13 16, gX 17 0 13, gX 18 1 13, gX 19 2 13, ⟨gO, .alloc 4 gZ⟩, gT 6 4 17, gM 5 18, gM 6 19]) (.seq (gQ [gM 20 3, gU 21 .eql 20 0, gM 22 21, gN 22 true 23 6, ⟨some (22, true), .bin 24 .eql false (.s 23) (gI 0)⟩, ⟨gO, .pick 25 (.s 22) (.s 24) (.k (.bool false))⟩, gM 26 25, gN 26 true 27 5, ⟨some (26, true), .bin 28 .eql false (.s 27) (gI 1)⟩, ⟨gO, .pick 29 (.s 26) (.s 28) (.k (.bool false))⟩, gM 30 29, gN 30 true 31 1, ⟨some (30, true), .ld 32 3 true (.s 2)⟩, ⟨some (30, true), .call (some 33) (.k (.fn 9 [])) [.k (.lst .nil 7 [])]⟩, ⟨some (30, true), .calls (some 34) (.k (.fn 15 [])) [.s 31, .s 32, gI 1, .s 33]⟩, ⟨some (30, true), .bin 35 .eql false (.s 34) (gI 0)⟩, ⟨gO, .pick 36 (.s 30) (.s 35) (.k (.bool false))⟩, gM 37 36, gN 37 true 38 1, ⟨some (37, true), .ld 39 3 true (.s 2)⟩, ⟨some (37, true), .call (some 40) (.k (.fn 9 [])) [.k (.lst .nil 7 [])]⟩, ⟨some (37, true), .calls (some 41) (.k (.fn 15 [])) [.s 38, .s 39, gI 1, .s 40]⟩, ⟨some (37, true), .bin 42 .eql false (.s 41) (gI 32)⟩, ⟨gO, .pick 43 (.s 37) (.s 42) (.k (.bool false))⟩, gM 0 43]) .ret)))))
def a_law16_awake : AFn := ⟨0, 44, b_law16_awake, [.tmp 0]⟩
theorem a_law16_awake_ok : fnAF Tryd.prog [2000007, 2000012, 2000014, 2000011, 2000017, 2000019, 2000013, 2000008, 2000015, 2000010, 2000006] Tryd.f5 = some a_law16_awake := by kernel_rfl
theorem a_law16_awake_cb : callable Tryd.prog 5 = true := by kernel_rfl
end Go.Proofs.YtdncaodccgfniaaDoor
namespace Go.Proofs.YtdncaodccgfniaaDoor
set_option maxRecDepth 100000
def b_scalar_letter : ACode :=
 .seq (gQ [⟨gO, .mov 2 (.k (.bool false))⟩]) (.seq (gQ [gM 3 0, ⟨gO, gB 4 .geq (.s 3) (.k (.int .u8 97))⟩, gM 5 4, gN 5 true 6 0, ⟨some (5, true), .bin 7 .leq false (.s 6) (.k (.int .u8 122))⟩, ⟨gO, .pick 8 (.s 5) (.s 7) (.k (.bool false))⟩, gM 9 8, gN 9 false 10 0, ⟨some (9, false), .bin 11 .geq false (.s 10) (.k (.int .u8 65))⟩, gN 9 false 12 11, gN 12 true 13 0, ⟨some (12, true), .bin 14 .leq false (.s 13) (.k (.int .u8 90))⟩, ⟨some (9, false), .pick 15 (.s 12) (.s 14) (.k (.bool false))⟩, ⟨gO, .pick 16 (.s 9) (.k (.bool true)) (.s 15)⟩, gM 2 16]) .ret)
def a_scalar_letter : AFn := ⟨1, 17, b_scalar_letter, [.tmp 2]⟩
theorem a_scalar_letter_ok : fnAF Tryd.prog [] Tryd.f64 = some a_scalar_letter := by kernel_rfl
theorem a_scalar_letter_cb : callable Tryd.prog 64 = true := by kernel_rfl
def b_scalar_digit : ACode :=
 .seq (gQ [⟨gO, .mov 2 (.k (.bool false))⟩]) (.seq (gQ [gM 3 0, ⟨gO, gB 4 .geq (.s 3) (.k (.int .u8 48))⟩, gM 5 4, gN 5 true 6 0, ⟨some (5, true), .bin 7 .leq false (.s 6) (.k (.int .u8 57))⟩, ⟨gO, .pick 8 (.s 5) (.s 7) (.k (.bool false))⟩, gM 2 8]) .ret)
def a_scalar_digit : AFn := ⟨1, 9, b_scalar_digit, [.tmp 2]⟩
theorem a_scalar_digit_ok : fnAF Tryd.prog [] Tryd.f65 = some a_scalar_digit := by kernel_rfl
theorem a_scalar_digit_cb : callable Tryd.prog 65 = true := by kernel_rfl
def b_scalar_Bare : ACode :=
 .seq (gQ [⟨gO, .mov 2 (.k (.bool false))⟩]) (.seq (.seq (gQ [gM 5 0, gH 6 true 5, gJ 7 0]) (.block 0 (.loop (.seq (gQ [gV 8 .lss 7 6]) (.seq (.cond (.s 8) .skip (.exit 0)) (.seq (.block 1 (.seq (gQ [gM 9 7, gM 3 9]) (.seq (gQ [gM 10 0, gM 11 3, ⟨gO, .bidx 12 (.s 10) (.s 11)⟩, gM 4 12]) (.seq (gQ [gM 13 4, gC 14 64 [.s 13], ⟨gO, .un 15 .not (.s 14)⟩, gM 16 15, gN 16 true 17 3, ⟨some (16, true), .bin 18 .eql false (.s 17) (gI 0)⟩, gN 16 true 19 18, gN 19 false 20 4, ⟨some (19, false), .call (some 21) (.k (.fn 65 [])) [.s 20]⟩, ⟨some (19, false), .un 22 .not (.s 21)⟩, gN 19 false 23 22, gN 23 true 24 4, ⟨some (23, true), .call (some 25) (.k (.fn 66 [])) [gS ⟨#[95, 45, 46, 47]⟩, .s 24]⟩, ⟨some (23, true), .bin 26 .lss false (.s 25) (gI 0)⟩, ⟨some (19, false), .pick 27 (.s 23) (.s 26) (.k (.bool false))⟩, ⟨some (16, true), .pick 28 (.s 19) (.k (.bool true)) (.s 27)⟩, ⟨gO, .pick 29 (.s 16) (.s 28) (.k (.bool false))⟩]) (.cond (.s 29) (.seq (gQ [⟨gO, .mov 2 (.k (.bool false))⟩]) .ret) .skip))))) (.reg [gU 30 .add 7 1, gM 7 30]))))))) (.seq (.seq (gQ [gM 31 0]) (.block 2 (.seq (.seq (gQ [⟨gO, gB 33 .eql (.s 31) (gS ⟨#[]⟩)⟩, gM 32 33]) (.cond (.s 32) .skip (.seq (gQ [⟨gO, gB 34 .eql (.s 31) (gS ⟨#[110, 117, 108, 108]⟩)⟩, gM 32 34]) (.cond (.s 32) .skip (.seq (gQ [⟨gO, gB 35 .eql (.s 31) (gS ⟨#[116, 114, 117, 101]⟩)⟩, gM 32 35]) (.cond (.s 32) .skip (.reg [⟨gO, gB 36 .eql (.s 31) (gS ⟨#[102, 97, 108, 115, 101]⟩)⟩, gM 32 36]))))))) (.cond (.s 32) (.seq (gQ [⟨gO, .mov 2 (.k (.bool false))⟩]) .ret) .skip)))) (.seq (gQ [⟨gO, .mov 2 (.k (.bool true))⟩]) .ret)))
def a_scalar_Bare : AFn := ⟨1, 37, b_scalar_Bare, [.tmp 2]⟩
theorem a_scalar_Bare_ok : fnAF Tryd.prog [] Tryd.f42 = some a_scalar_Bare := by kernel_rfl
theorem a_scalar_Bare_cb : callable Tryd.prog 42 = true := by kernel_rfl
def b_tree_Text : ACode :=
 .seq (gQ [⟨gO, .mov 2 (.k (.bool false))⟩]) (.seq (.seq (gQ [gM 5 0, gH 6 true 5, gJ 7 0]) (.block 0 (.loop (.seq (gQ [gV 8 .lss 7 6]) (.seq (.cond (.s 8) .skip (.exit 0)) (.seq (.block 1 (.seq (gQ [gM 9 7, gM 3 9]) (.seq (gQ [gM 10 0, gM 11 3, ⟨gO, .bidx 12 (.s 10) (.s 11)⟩, gM 4 12]) (.seq (gQ [gM 13 4, ⟨gO, gB 14 .lss (.s 13) (.k (.int .u8 32))⟩, gM 15 14, gN 15 true 16 4, ⟨some (15, true), .bin 17 .neq false (.s 16) (.k (.int .u8 10))⟩, ⟨gO, .pick 18 (.s 15) (.s 17) (.k (.bool false))⟩, gM 19 18, gN 19 true 20 4, ⟨some (19, true), .bin 21 .neq false (.s 20) (.k (.int .u8 9))⟩, ⟨gO, .pick 22 (.s 19) (.s 21) (.k (.bool false))⟩, gM 23 22, gN 23 false 24 4, ⟨some (23, false), .bin 25 .gtr false (.s 24) (.k (.int .u8 126))⟩, ⟨gO, .pick 26 (.s 23) (.k (.bool true)) (.s 25)⟩]) (.cond (.s 26) (.seq (gQ [⟨gO, .mov 2 (.k (.bool false))⟩]) .ret) .skip))))) (.reg [gU 27 .add 7 1, gM 7 27]))))))) (.seq (gQ [gM 28 0, gH 29 true 28, gU 30 .leq 29 65536, gM 2 30]) .ret))
def a_tree_Text : AFn := ⟨1, 31, b_tree_Text, [.tmp 2]⟩
theorem a_tree_Text_ok : fnAF Tryd.prog [] Tryd.f69 = some a_tree_Text := by kernel_rfl
theorem a_tree_Text_cb : callable Tryd.prog 69 = true := by kernel_rfl
end Go.Proofs.YtdncaodccgfniaaDoor
namespace Go.Proofs.YtdncaodccgfniaaDoor
open Go.RowKit
def letN (c : Nat) : Bool := decide (65 ≤ c) && decide (c ≤ 90) || decide (97 ≤ c) && decide (c ≤ 122)
def moreN (c : Nat) : Bool := decide (48 ≤ c) && decide (c ≤ 57) || decide (c = 95) || decide (c = 45) || decide (c = 46) || decide (c = 47)
def bareAt (k c : Nat) : Bool := letN c || (!decide (k = 0) && moreN c)
def bareWord (s : ByteArray) : Bool := decide (s.size = 0) || decide (s = ⟨#[110, 117, 108, 108]⟩) || decide (s = ⟨#[116, 114, 117, 101]⟩) || decide (s = ⟨#[102, 97, 108, 115, 101]⟩)
def bareB (s : ByteArray) : Bool := !bareWord s && decide (∀ k, (h : k < s.size) → bareAt k s[k].toNat = true)
theorem bareB_no {s : ByteArray} {k : Nat} (h : k < s.size) (hb : bareAt k s[k].toNat = false) : bareB s = false := by
 unfold bareB
 rw [Bool.and_eq_false_iff]
 refine .inr (decide_eq_false fun hA => ?_)
 rw [hA k h] at hb
 cases hb
end Go.Proofs.YtdncaodccgfniaaDoor
