/-
  The texts that the claim wants, one behind the other: part 9.
-/
import Derived.Test.YtdncaodccgfniaaDoorS8
import Derived.Test.YtdncaodccgfniaaDoorRows
set_option linter.unusedSimpArgs false
set_option linter.unusedVariables false
namespace Go.Proofs.YtdncaodccgfniaaDoor
open Go.ChangeShapes Go.WideShapes Go.ChangeAt Go.RowKit Go.Deep
theorem own : ownKnob Tryd.prog.godebug = none := by kernel_rfl
theorem laidOut : laidOutB Tryd.prog = true := by kernel_rfl
theorem wt_arg {H : Type} {ts : List TypeId} {ds : List (DataW H)} (h : (DataW.weightsEach Tryd.prog ts ds).all (· ≤ reachBytes) = true) {j : Nat} {t : TypeId} {d : DataW H} (ht : ts[j]? = some t) (hd : ds[j]? = some d) : WtOk Tryd.prog t d := fun q hq => by
 have := List.all_eq_true.1 h q (DataW.weights_mem_each ht hd q hq)
 simpa using this
theorem RelPs.two {σ : Sg} {a b : Value} {x y : AV} (h1 : RelP σ a x) (h2 : RelP σ b y) : RelPs σ [a, b] [x, y] := by
 refine ⟨rfl, fun j v w hv hu => ?_⟩
 rcases j with _ | _ | j <;> simp at hv hu
 ·subst hv hu; exact h1
 ·subst hv hu; exact h2
def setG (h : Array Obj) (g : Nat) (l : List Value) : Array Obj := h.modify g fun
 | .cells _ t frozen => .cells l.toArray t frozen
 | o => o
end Go.Proofs.YtdncaodccgfniaaDoor
