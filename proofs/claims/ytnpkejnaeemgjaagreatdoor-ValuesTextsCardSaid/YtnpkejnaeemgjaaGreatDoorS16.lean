/-
  The texts that the claim wants, one behind the other: part 16.
-/
import Derived.Test.YtnpkejnaeemgjaaGreatDoorS15
import Derived.Shelf.Strings.Builder1
import Derived.Shelf.Strings.Builder2
import Derived.Shelf.Strings.OnBuilder
import Derived.Test.YtnpkejnaeemgjaaGreatDoorProg
import Derived.KernelRfl
set_option linter.unusedSimpArgs false
set_option linter.unusedVariables false
namespace Go.Proofs
open Go.Shelf Go.RowKit
def Tryz.layh167_ren : Go.Shelf.Ren := ⟨fun | 167 => 177 | 240 => 203 | 276 => 221 | n => n, fun | 37 => 26 | 70 => 192 | 72 => 194 | 75 => 157 | 80 => 74 | 164 => 232 | n => n, fun | n => n⟩
theorem Tryz.layh167 : Go.Proofs.Lays.n167 Tryz.prog Tryz.layh167_ren := {
 mixed := by kernel_rfl
 f167 := Tryz.func177.trans (congrArg some (by kernel_rfl))
 f240 := Tryz.func203.trans (congrArg some (by kernel_rfl))
 f276 := Tryz.func221.trans (congrArg some (by kernel_rfl))
 t0 := Tryz.underlying0
 a0 := Tryz.isAgg0
 z0 := Tryz.sizeOf0
 v0 := Tryz.zeroValue0
 t4 := Tryz.underlying4
 a4 := Tryz.isAgg4
 z4 := Tryz.sizeOf4
 v4 := Tryz.zeroValue4
 t5 := Tryz.underlying5
 a5 := Tryz.isAgg5
 z5 := Tryz.sizeOf5
 v5 := Tryz.zeroValue5
 t9 := Tryz.underlying9
 a9 := Tryz.isAgg9
 z9 := Tryz.sizeOf9
 v9 := Tryz.zeroValue9
 t20 := Tryz.underlying20
 a20 := Tryz.isAgg20
 z20 := Tryz.sizeOf20
 v20 := Tryz.zeroValue20
 t37 := Tryz.underlying26
 a37 := Tryz.isAgg26
 z37 := Tryz.sizeOf26
 v37 := Tryz.zeroValue26
 t70 := Tryz.underlying192
 a70 := Tryz.isAgg192
 z70 := Tryz.sizeOf192
 v70 := Tryz.zeroValue192
 t72 := Tryz.underlying194
 a72 := Tryz.isAgg194
 z72 := Tryz.sizeOf194
 v72 := Tryz.zeroValue194
 t75 := Tryz.underlying157
 a75 := Tryz.isAgg157
 z75 := Tryz.sizeOf157
 v75 := Tryz.zeroValue157
 t164 := Tryz.underlying232
 a164 := Tryz.isAgg232
 z164 := Tryz.sizeOf232
 v164 := Tryz.zeroValue232 }
theorem Tryz.Builder_Extra_h : Builder.Extra Tryz.prog Tryz.layh167_ren := {
 sizeBuilder := by kernel_rfl
 liesBuilder := by kernel_rfl
 t5 := Tryz.underlying5
 a5 := Tryz.isAgg5
 z5 := Tryz.sizeOf5
 v5 := Tryz.zeroValue5
 infoByte := by kernel_rfl
 cellsByte := by kernel_rfl
 sizeByte := by kernel_rfl
 neB5 := by decide }
theorem Tryz.writeByte_h (B b : Nat) (bs : List Value) (c : Int) (w : World) (h : Lib.IsBuilder 194 5 B b bs w) (hlen : bs.length + 1 ≤ 140737488355328) (hBw : B ≤ w.heap.size) :
  Calls Tryz.prog 177 #[.pointer (some ⟨b, 0, none⟩), .int .u8 c] w fun e w' => e = .returned .nilIface ∧ (Lib.BuilderAt 194 5 B b (.pointer (some ⟨b, 0, none⟩)) (bs ++ [.int .u8 c]) w' ∧ Below B w w') := Any.Builder_WriteByte Tryz.layh167 Tryz.Builder_Extra_h B b bs c w h hlen hBw
end Go.Proofs
