/-
  The texts that the claim wants, one behind the other: part 21.
-/
import Derived.Test.YtbfiopoefbbknaaGreatDoorS20
import Derived.Lib.ItoaLen
set_option linter.unusedSimpArgs false
set_option linter.unusedVariables false
namespace Go.Proofs.YtbfiopoefbbknaaGreatDoor
open Go.RowKit
end Go.Proofs.YtbfiopoefbbknaaGreatDoor
/-
 YamlWrong, walked: it answers true.
-/
namespace Go.Proofs.YtbfiopoefbbknaaGreatDoor
open Go.RowKit
end Go.Proofs.YtbfiopoefbbknaaGreatDoor
