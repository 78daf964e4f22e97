/-
  What Get answers, as abstract values.
-/
import Derived.Test.YtgekcnpfflhpkaaGreatDoorEnc
import Derived.Test.YtgekcnpfflhpkaaGreatDoorPure
namespace Go.Proofs.YtgekcnpfflhpkaaGreatDoor
set_option linter.unusedSimpArgs false
set_option linter.unusedVariables false
open Go.RowKit

def getAV : Option V → AV
  | none => .tup [.agg (cellsV V.null), .bool false]
  | some x => .tup [.agg [.int .i64 (x).kind, .bool (x).b, .int .i64 (x).n, .str (x).s, .lst .any 6 (rowsV (x).l), .lst .any 7 (rowsM (x).m)], .bool true]
def nullAV : AV := .tup [.agg [.int .i64 0, .bool false, .int .i64 0, .str ⟨#[]⟩, .lst .any 6 [], .lst .any 7 []], .bool false]
theorem mfind_size {v x : V} {key : ByteArray} (h : mfind key v.m = some x) : x.size < v.size := V.mem_size (mem_of_mfind h)
end Go.Proofs.YtgekcnpfflhpkaaGreatDoor
