/-
  A region may be walked in any order; a text's byte.
-/
import Derived.Test.YtgekcnpfflhpkaaGreatDoorChecked
import Derived.Test.YtgekcnpfflhpkaaGreatDoorEnc
namespace Go.Proofs.YtgekcnpfflhpkaaGreatDoor
set_option linter.unusedSimpArgs false
set_option linter.unusedVariables false
open Go.RowKit

theorem follows_any : Tryz.prog.follows .mixedOrders = true := by kernel_rfl
theorem byte_at {s : ByteArray} {k : Nat} (h : k < s.size) : s.data.getD k 0 = s[k] := by
  rw [Array.getD, dif_pos (show k < s.data.size from h)]
  rfl
end Go.Proofs.YtgekcnpfflhpkaaGreatDoor
