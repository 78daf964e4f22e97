/-
  The texts that the claim wants, one behind the other: part 10.
-/
import Derived.Test.YtdncaodccgfniaaDoorS9
import Derived.Test.YtdncaodccgfniaaDoorChecked
import Derived.KernelRfl
set_option linter.unusedSimpArgs false
set_option linter.unusedVariables false
namespace Go.Proofs.YtdncaodccgfniaaDoor
set_option maxRecDepth 100000
def b_law16_ClusterFailsX : ACode :=
 .seq (gQ [⟨gO, .mov 4 (.k (.bool false))⟩]) (.seq (.seq (gQ [gM 12 0, gH 13 false 12, gU 14 .gtr 13 20]) (.cond (.s 14) (.seq (gQ [gC 15 5 [], gM 4 15]) .ret) .skip)) (.seq (gQ [⟨gO, .calls (some 16) (.k (.fn 6 [])) [.k (.raw (Value.pointer none))]⟩, gM 5 16]) (.seq (gQ [⟨gO, .mop (MO.new 26) (some 17) []⟩, gM 6 17]) (.seq (.seq (gQ [gM 18 0, gH 19 false 18, gJ 20 0]) (.block 0 (.loop (.seq (gQ [gV 21 .lss 20 19]) (.seq (.cond (.s 21) .skip (.exit 0)) (.seq (.block 1 (.seq (gQ [gE 22 1 18 20, gL 23 22, gM 8 23]) (.seq (.regs [gM 24 5, gM 25 8, ⟨gO, gB 26 .rem (.s 25) (.k (.int .u8 40))⟩, ⟨gO, .conv 27 .i64 (.s 26)⟩, ⟨gO, .bsl 28 1 1 [.int .i64 0] [(0, 1, .s 27)]⟩, ⟨gO, .calls (some 29) (.k (.fn 7 [])) [.s 24, .s 28]⟩]) (.reg [gM 30 6, gM 31 8, ⟨gO, gB 32 .rem (.s 31) (.k (.int .u8 40))⟩, ⟨gO, .conv 33 .i64 (.s 32)⟩, ⟨gO, .mop (MO.set 26) none [.s 30, .s 33, .k (.bool true)]⟩])))) (.reg [gU 34 .add 20 1, gM 20 34]))))))) (.seq (.regs [gM 35 5, ⟨gO, .bsl 36 1 1 [.int .i64 0] [(0, 1, .k (.int .i64 (-1)))]⟩, ⟨gO, .calls (some 37) (.k (.fn 7 [])) [.s 35, .s 36]⟩]) (.seq (gQ [gJ 9 0]) (.seq (.seq (gQ [gM 38 1, ⟨gO, gB 39 .rem (.s 38) (.k (.int .u8 60))⟩, ⟨gO, .conv 40 .i64 (.s 39)⟩, gJ 41 0]) (.block 2 (.loop (.seq (gQ [gV 42 .lss 41 40]) (.seq (.cond (.s 42) .skip (.exit 2)) (.seq (.block 3 (.seq (gQ [gM 43 41, gM 10 43]) (.seq (gQ [gM 44 5, gM 45 10, gU 46 .rem 45 26, ⟨gO, gB 47 .add (gI 97) (.s 46)⟩, ⟨gO, .conv 48 .u8 (.s 47)⟩, gM 49 10, gU 50 .quo 49 26, ⟨gO, gB 51 .add (gI 97) (.s 50)⟩, ⟨gO, .conv 52 .u8 (.s 51)⟩, ⟨gO, .bsl 53 2 1 [.int .u8 0, .int .u8 0] [(0, 1, .s 48), (1, 1, .s 52)]⟩, ⟨gO, .b2s 54 (.s 53)⟩, ⟨gO, gB 55 .add (gS ⟨#[99]⟩) (.s 54)⟩, ⟨gO, .build 56 [.str ⟨#[]⟩, .str ⟨#[]⟩, .str ⟨#[]⟩] [(0, 1, gS ⟨#[65]⟩), (1, 1, gS ⟨#[98]⟩), (2, 1, .s 55)]⟩, ⟨gO, .call (some 57) (.k (.fn 9 [])) [.k (.lst .nil 7 [])]⟩, ⟨gO, .calls (some 58) (.k (.fn 8 [])) [.s 44, .s 56, .s 57]⟩, gM 11 58]) (.seq (.seq (gQ [gM 59 11, gU 60 .eql 59 30, gM 61 6, gM 62 10, ⟨gO, .mop (MO.get 26 false) (some 63) [.s 61, .s 62]⟩, ⟨gO, .bin 64 .neq true (.s 60) (.s 63)⟩, gM 65 64, gN 65 false 66 6, gN 65 false 67 10, ⟨some (65, false), .mop (MO.get 26 false) (some 68) [.s 66, .s 67]⟩, ⟨some (65, false), .un 69 .not (.s 68)⟩, gN 65 false 70 69, gN 70 true 71 11, ⟨some (70, true), .bin 72 .neq false (.s 71) (gI 0)⟩, ⟨some (65, false), .pick 73 (.s 70) (.s 72) (.k (.bool false))⟩, ⟨gO, .pick 74 (.s 65) (.k (.bool true)) (.s 73)⟩]) (.cond (.s 74) (.seq (gQ [⟨gO, .mov 4 (.k (.bool false))⟩]) .ret) .skip)) (.seq (gQ [gM 75 11, gU 76 .eql 75 0]) (.cond (.s 76) (.reg [gM 77 9, gU 78 .add 77 1, gM 9 78]) .skip)))))) (.reg [gU 79 .add 41 1, gM 41 79]))))))) (.seq (gQ [gC 80 5 [], gM 81 80, gN 81 true 82 5, ⟨some (81, true), .calls (some 83) (.k (.fn 10 [])) [.s 82]⟩, ⟨some (81, true), .len 84 false (.s 83)⟩, gN 81 true 85 9, ⟨some (81, true), .bin 86 .eql false (.s 84) (.s 85)⟩, ⟨gO, .pick 87 (.s 81) (.s 86) (.k (.bool false))⟩, gM 88 87, gN 88 true 89 5, ⟨some (88, true), .calls (some 90) (.k (.fn 11 [])) [.s 89]⟩, ⟨some (88, true), .un 91 .not (.s 90)⟩, ⟨gO, .pick 92 (.s 88) (.s 91) (.k (.bool false))⟩, gM 4 92]) .ret))))))))
def a_law16_ClusterFailsX : AFn := ⟨2, 93, b_law16_ClusterFailsX, [.tmp 4]⟩
theorem a_law16_ClusterFailsX_ok : fnAF Tryd.prog [2000007, 2000012, 2000014, 2000011, 2000017, 2000019, 2000013, 2000008, 2000015, 2000010, 2000006, 5000008, 5000011] Tryd.f3 = some a_law16_ClusterFailsX := by kernel_rfl
theorem a_law16_ClusterFailsX_cb : callable Tryd.prog 3 = true := by kernel_rfl
end Go.Proofs.YtdncaodccgfniaaDoor
namespace Go.Proofs.YtdncaodccgfniaaDoor
set_option maxRecDepth 100000
def b_cluster_Cluster_FailX : ACode :=
 .seq (gQ [gM 4 0, ⟨gO, .eqs 5 true 24 (.s 4) (.k (.raw (Value.pointer none)))⟩]) (.cond (.s 5) (.regs [gM 6 0, gM 7 0, gF 8 0 7, gF 9 2 8, gL 10 9, gM 11 1, ⟨gO, .appr 12 1 8 (.s 10) (.s 11)⟩, gF 13 0 6, gF 14 2 13, gT 1 14 12]) .skip)
def a_cluster_Cluster_FailX : AFn := ⟨2, 15, b_cluster_Cluster_FailX, []⟩
theorem a_cluster_Cluster_FailX_ok : fnAF Tryd.prog [2000007, 4000012, 5000001] Tryd.f7 = some a_cluster_Cluster_FailX := by kernel_rfl
theorem a_cluster_Cluster_FailX_cb : callable Tryd.prog 7 = true := by kernel_rfl
end Go.Proofs.YtdncaodccgfniaaDoor
