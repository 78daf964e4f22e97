/-
  The texts that the claim wants, one behind the other: part 8.
-/
import Derived.Test.YtgcodocajgdmcaaDoorS7
import Derived.Test.YtgcodocajgdmcaaDoorRows
set_option linter.unusedSimpArgs false
set_option linter.unusedVariables false
namespace Go.Proofs.YtgcodocajgdmcaaDoor
open Go.ChangeShapes Go.WideShapes Go.ChangeAt Go.RowKit Go.Deep
theorem own : ownKnob Tryd.prog.godebug = none := by kernel_rfl
theorem laidOut : laidOutB Tryd.prog = true := by kernel_rfl
def setG (h : Array Obj) (g : Nat) (l : List Value) : Array Obj := h.modify g fun
 | .cells _ t frozen => .cells l.toArray t frozen
 | o => o
end Go.Proofs.YtgcodocajgdmcaaDoor
