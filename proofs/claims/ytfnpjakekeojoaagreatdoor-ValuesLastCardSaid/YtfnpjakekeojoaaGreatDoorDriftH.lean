/-
  Functions of the program as instructions.
-/
import Derived.Test.YtfnpjakekeojoaaGreatDoorChecked
import Derived.Test.YtfnpjakekeojoaaGreatDoorAF
import Derived.KernelRfl
namespace Go.Proofs.YtfnpjakekeojoaaGreatDoor
set_option maxRecDepth 100000

/-- mizzen tree.Put -/
def b_tree_Put : ACode :=
  ACode.seq (ACode.reg [{ g := none, i := AI.box 3 (Opd.s 0) }, { g := none, i := AI.box 5 (Opd.s 2) }, { g := none, i := AI.alloc 6 [AV.int IntKind.i64 0, AV.bool false, AV.int IntKind.i64 0, AV.str (ByteArray.mk #[]), AV.lst Tag.nil 6 [], AV.lst Tag.nil 7 []] }]) (ACode.seq (ACode.seq (ACode.reg [{ g := none, i := AI.off 7 0 (Opd.s 3) }, { g := none, i := AI.ld 8 1 false (Opd.s 7) }, { g := none, i := AI.bin 9 BinOp.neq false (Opd.s 8) (Opd.k (AV.int IntKind.i64 5)) }]) (ACode.cond (Opd.s 9) (ACode.reg [{ g := none, i := AI.build 10 [AV.int IntKind.i64 0, AV.bool false, AV.int IntKind.i64 0, AV.str (ByteArray.mk #[]), AV.lst Tag.nil 6 [], AV.lst Tag.nil 7 []] [] }, { g := none, i := AI.st 6 (Opd.s 3) (Opd.s 10) }]) ACode.skip)) (ACode.seq (ACode.reg [{ g := none, i := AI.off 11 5 (Opd.s 3) }, { g := none, i := AI.ld 12 1 false (Opd.s 11) }, { g := none, i := AI.callo (some 13) (Opd.k (AV.fn 70 [])) [Opd.s 12] }, { g := none, i := AI.mov 14 (Opd.s 1) }, { g := none, i := AI.ld 15 6 true (Opd.s 5) }, { g := none, i := AI.build 16 [AV.str (ByteArray.mk #[]), AV.int IntKind.i64 0, AV.bool false, AV.int IntKind.i64 0, AV.str (ByteArray.mk #[]), AV.lst Tag.nil 6 [], AV.lst Tag.nil 7 []] [(0, 1, Opd.s 14), (1, 6, Opd.s 15)] }, { g := none, i := AI.bsl 17 1 7 [AV.str (ByteArray.mk #[]), AV.int IntKind.i64 0, AV.bool false, AV.int IntKind.i64 0, AV.str (ByteArray.mk #[]), AV.lst Tag.nil 6 [], AV.lst Tag.nil 7 []] [(0, 7, Opd.s 16)] }, { g := none, i := AI.app 18 7 104 (Opd.s 13) (Opd.s 17) }, { g := none, i := AI.call (some 19) (Opd.k (AV.fn 25 [])) [Opd.s 18] }, { g := none, i := AI.st 6 (Opd.s 6) (Opd.s 19) }]) ACode.ret))
def a_tree_Put : AFn := ⟨3, 20, b_tree_Put, [ARes.cell 6 6 true]⟩
theorem a_tree_Put_ok : fnAF Tryz.prog [1000070] Tryz.f56 = some a_tree_Put := by kernel_rfl
theorem a_tree_Put_cb : callable Tryz.prog 56 = true := by kernel_rfl
end Go.Proofs.YtfnpjakekeojoaaGreatDoor
