/-
  Functions of the program as instructions.
-/
import Derived.Test.YtfnpjakekeojoaaGreatDoorChecked
import Derived.Test.YtfnpjakekeojoaaGreatDoorAF
import Derived.KernelRfl
namespace Go.Proofs.YtfnpjakekeojoaaGreatDoor
set_option maxRecDepth 100000

/-- mizzen tree.Int -/
def b_tree_Int : ACode :=
  ACode.seq (ACode.reg [{ g := none, i := AI.alloc 2 [AV.int IntKind.i64 0, AV.bool false, AV.int IntKind.i64 0, AV.str (ByteArray.mk #[]), AV.lst Tag.nil 6 [], AV.lst Tag.nil 7 []] }]) (ACode.seq (ACode.reg [{ g := none, i := AI.mov 3 (Opd.s 0) }, { g := none, i := AI.build 4 [AV.int IntKind.i64 0, AV.bool false, AV.int IntKind.i64 0, AV.str (ByteArray.mk #[]), AV.lst Tag.nil 6 [], AV.lst Tag.nil 7 []] [(0, 1, Opd.k (AV.int IntKind.i64 2)), (2, 1, Opd.s 3)] }, { g := none, i := AI.st 6 (Opd.s 2) (Opd.s 4) }]) ACode.ret)
def a_tree_Int : AFn := ⟨1, 5, b_tree_Int, [ARes.cell 2 6 true]⟩
theorem a_tree_Int_ok : fnAF Tryz.prog [] Tryz.f26 = some a_tree_Int := by kernel_rfl
theorem a_tree_Int_cb : callable Tryz.prog 26 = true := by kernel_rfl

/-- mizzen tree.Get -/
def b_tree_Get : ACode :=
  ACode.seq (ACode.reg [{ g := none, i := AI.box 2 (Opd.s 0) }, { g := none, i := AI.alloc 4 [AV.int IntKind.i64 0, AV.bool false, AV.int IntKind.i64 0, AV.str (ByteArray.mk #[]), AV.lst Tag.nil 6 [], AV.lst Tag.nil 7 []] }, { g := none, i := AI.mov 5 (Opd.k (AV.bool false)) }]) (ACode.seq (ACode.seq (ACode.reg [{ g := none, i := AI.off 8 0 (Opd.s 2) }, { g := none, i := AI.ld 9 1 false (Opd.s 8) }, { g := none, i := AI.bin 10 BinOp.neq false (Opd.s 9) (Opd.k (AV.int IntKind.i64 5)) }]) (ACode.cond (Opd.s 10) (ACode.seq (ACode.reg [{ g := none, i := AI.build 11 [AV.int IntKind.i64 0, AV.bool false, AV.int IntKind.i64 0, AV.str (ByteArray.mk #[]), AV.lst Tag.nil 6 [], AV.lst Tag.nil 7 []] [] }, { g := none, i := AI.st 6 (Opd.s 4) (Opd.s 11) }, { g := none, i := AI.mov 5 (Opd.k (AV.bool false)) }]) ACode.ret) ACode.skip)) (ACode.seq (ACode.reg [{ g := none, i := AI.off 13 5 (Opd.s 2) }, { g := none, i := AI.ld 14 1 false (Opd.s 13) }, { g := none, i := AI.mov 15 (Opd.s 1) }, { g := none, i := AI.call (some 16) (Opd.k (AV.fn 45 [])) [Opd.s 14, Opd.s 15, Opd.k (AV.fn 46 [])] }, { g := none, i := AI.mov 12 (Opd.s 16) }, { g := none, i := AI.ext 17 0 (Opd.s 12) }, { g := none, i := AI.ext 18 1 (Opd.s 12) }, { g := none, i := AI.mov 6 (Opd.s 17) }, { g := none, i := AI.mov 7 (Opd.s 18) }]) (ACode.seq (ACode.seq (ACode.reg [{ g := none, i := AI.mov 19 (Opd.s 7) }, { g := none, i := AI.un 20 UnOp.not (Opd.s 19) }]) (ACode.cond (Opd.s 20) (ACode.seq (ACode.reg [{ g := none, i := AI.build 21 [AV.int IntKind.i64 0, AV.bool false, AV.int IntKind.i64 0, AV.str (ByteArray.mk #[]), AV.lst Tag.nil 6 [], AV.lst Tag.nil 7 []] [] }, { g := none, i := AI.st 6 (Opd.s 4) (Opd.s 21) }, { g := none, i := AI.mov 5 (Opd.k (AV.bool false)) }]) ACode.ret) ACode.skip)) (ACode.seq (ACode.reg [{ g := none, i := AI.off 22 5 (Opd.s 2) }, { g := none, i := AI.ld 23 1 false (Opd.s 22) }, { g := none, i := AI.mov 24 (Opd.s 6) }, { g := none, i := AI.idx 25 7 (Opd.s 23) (Opd.s 24) }, { g := none, i := AI.off 26 1 (Opd.s 25) }, { g := none, i := AI.ld 27 6 true (Opd.s 26) }, { g := none, i := AI.call (some 28) (Opd.k (AV.fn 47 [])) [Opd.s 27] }, { g := none, i := AI.st 6 (Opd.s 4) (Opd.s 28) }, { g := none, i := AI.mov 5 (Opd.k (AV.bool true)) }]) ACode.ret))))
def a_tree_Get : AFn := ⟨2, 29, b_tree_Get, [ARes.cell 4 6 true, ARes.tmp 5]⟩
theorem a_tree_Get_ok : fnAF Tryz.prog [] Tryz.f27 = some a_tree_Get := by kernel_rfl
theorem a_tree_Get_cb : callable Tryz.prog 27 = true := by kernel_rfl

/-- mizzen tree.byKey -/
def b_tree_byKey : ACode :=
  ACode.seq (ACode.reg [{ g := none, i := AI.box 2 (Opd.s 0) }, { g := none, i := AI.mov 4 (Opd.k (AV.int IntKind.i64 0)) }]) (ACode.seq (ACode.reg [{ g := none, i := AI.off 5 0 (Opd.s 2) }, { g := none, i := AI.ld 6 1 false (Opd.s 5) }, { g := none, i := AI.mov 7 (Opd.s 1) }, { g := none, i := AI.call (some 8) (Opd.k (AV.fn 68 [])) [Opd.s 6, Opd.s 7] }, { g := none, i := AI.mov 4 (Opd.s 8) }]) ACode.ret)
def a_tree_byKey : AFn := ⟨2, 9, b_tree_byKey, [ARes.tmp 4]⟩
theorem a_tree_byKey_ok : fnAF Tryz.prog [] Tryz.f46 = some a_tree_byKey := by kernel_rfl
theorem a_tree_byKey_cb : callable Tryz.prog 46 = true := by kernel_rfl

/-- slices.BinarySearchFunc[[]mizzen api.Pair,mizzen api.Pair,string] -/
def b_slices_BinarySearchFunc_string : ACode :=
  ACode.seq (ACode.reg [{ g := none, i := AI.mov 6 (Opd.k (AV.int IntKind.i64 0)) }, { g := none, i := AI.mov 7 (Opd.k (AV.bool false)) }]) (ACode.seq (ACode.reg [{ g := none, i := AI.mov 12 (Opd.s 0) }, { g := none, i := AI.len 13 false (Opd.s 12) }, { g := none, i := AI.mov 8 (Opd.s 13) }]) (ACode.seq (ACode.reg [{ g := none, i := AI.mov 14 (Opd.s 8) }, { g := none, i := AI.mov 9 (Opd.k (AV.int IntKind.i64 0)) }, { g := none, i := AI.mov 10 (Opd.s 14) }]) (ACode.seq (ACode.block 0 (ACode.loop (ACode.seq (ACode.seq (ACode.reg [{ g := none, i := AI.mov 15 (Opd.s 9) }, { g := none, i := AI.mov 16 (Opd.s 10) }, { g := none, i := AI.bin 17 BinOp.lss false (Opd.s 15) (Opd.s 16) }]) (ACode.cond (Opd.s 17) ACode.skip (ACode.exit 0))) (ACode.block 1 (ACode.seq (ACode.reg [{ g := none, i := AI.mov 18 (Opd.s 9) }, { g := none, i := AI.mov 19 (Opd.s 10) }, { g := none, i := AI.bin 20 BinOp.add false (Opd.s 18) (Opd.s 19) }, { g := none, i := AI.conv 21 IntKind.u64 (Opd.s 20) }, { g := none, i := AI.bin 22 BinOp.shr false (Opd.s 21) (Opd.k (AV.int IntKind.u64 1)) }, { g := none, i := AI.conv 23 IntKind.i64 (Opd.s 22) }, { g := none, i := AI.mov 11 (Opd.s 23) }]) (ACode.seq (ACode.reg [{ g := none, i := AI.mov 24 (Opd.s 2) }, { g := none, i := AI.mov 25 (Opd.s 0) }, { g := none, i := AI.mov 26 (Opd.s 11) }, { g := none, i := AI.idx 27 7 (Opd.s 25) (Opd.s 26) }, { g := none, i := AI.ld 28 7 true (Opd.s 27) }, { g := none, i := AI.mov 29 (Opd.s 1) }, { g := none, i := AI.call (some 30) (Opd.s 24) [Opd.s 28, Opd.s 29] }, { g := none, i := AI.bin 31 BinOp.lss false (Opd.s 30) (Opd.k (AV.int IntKind.i64 0)) }]) (ACode.cond (Opd.s 31) (ACode.reg [{ g := none, i := AI.mov 32 (Opd.s 11) }, { g := none, i := AI.bin 33 BinOp.add false (Opd.s 32) (Opd.k (AV.int IntKind.i64 1)) }, { g := none, i := AI.mov 9 (Opd.s 33) }]) (ACode.reg [{ g := none, i := AI.mov 34 (Opd.s 11) }, { g := none, i := AI.mov 10 (Opd.s 34) }])))))))) (ACode.seq (ACode.reg [{ g := none, i := AI.mov 35 (Opd.s 9) }, { g := none, i := AI.mov 36 (Opd.s 9) }, { g := none, i := AI.mov 37 (Opd.s 8) }, { g := none, i := AI.bin 38 BinOp.lss false (Opd.s 36) (Opd.s 37) }, { g := none, i := AI.mov 39 (Opd.s 38) }, { g := some (39, true), i := AI.mov 40 (Opd.s 2) }, { g := some (39, true), i := AI.mov 41 (Opd.s 0) }, { g := some (39, true), i := AI.mov 42 (Opd.s 9) }, { g := some (39, true), i := AI.idx 43 7 (Opd.s 41) (Opd.s 42) }, { g := some (39, true), i := AI.ld 44 7 true (Opd.s 43) }, { g := some (39, true), i := AI.mov 45 (Opd.s 1) }, { g := some (39, true), i := AI.call (some 46) (Opd.s 40) [Opd.s 44, Opd.s 45] }, { g := some (39, true), i := AI.bin 47 BinOp.eql false (Opd.s 46) (Opd.k (AV.int IntKind.i64 0)) }, { g := none, i := AI.pick 48 (Opd.s 39) (Opd.s 47) (Opd.k (AV.bool false)) }, { g := none, i := AI.mov 6 (Opd.s 35) }, { g := none, i := AI.mov 7 (Opd.s 48) }]) ACode.ret))))
def a_slices_BinarySearchFunc_string : AFn := ⟨3, 49, b_slices_BinarySearchFunc_string, [ARes.tmp 6, ARes.tmp 7]⟩
theorem a_slices_BinarySearchFunc_string_ok : fnAF Tryz.prog [] Tryz.f45 = some a_slices_BinarySearchFunc_string := by kernel_rfl
theorem a_slices_BinarySearchFunc_string_cb : callable Tryz.prog 45 = true := by kernel_rfl

/-- strings.Compare -/
def b_strings_Compare : ACode :=
  ACode.seq (ACode.reg [{ g := none, i := AI.mov 4 (Opd.k (AV.int IntKind.i64 0)) }]) (ACode.seq (ACode.reg [{ g := none, i := AI.mov 5 (Opd.s 0) }, { g := none, i := AI.mov 6 (Opd.s 1) }, { g := none, i := AI.call (some 7) (Opd.k (AV.fn 87 [])) [Opd.s 5, Opd.s 6] }, { g := none, i := AI.mov 4 (Opd.s 7) }]) ACode.ret)
def a_strings_Compare : AFn := ⟨2, 8, b_strings_Compare, [ARes.tmp 4]⟩
theorem a_strings_Compare_ok : fnAF Tryz.prog [] Tryz.f68 = some a_strings_Compare := by kernel_rfl
theorem a_strings_Compare_cb : callable Tryz.prog 68 = true := by kernel_rfl
end Go.Proofs.YtfnpjakekeojoaaGreatDoor
