/-
  The texts that the claim wants, one behind the other: part 17.
-/
import Derived.Test.YtbfiopoefbbknaaGreatDoorS16
import Derived.Deep.RegionWith
set_option linter.unusedSimpArgs false
set_option linter.unusedVariables false
namespace Go.Proofs.YtbfiopoefbbknaaGreatDoor
open Go.ChangeShapes Go.WideShapes Go.ChangeAt Go.RowKit Go.Deep
def σW (w : World) : Sg := fun b o => w.cell? ⟨b, o, none⟩
theorem holds_all (w : World) : Holds (σW w) w := fun _ _ _ h => h
section
variable {H : Type} {enc : TypeId × Value → H} {P : Program}
def WtOk (P : Program) (t : TypeId) (d : DataW H) : Prop := ∀ q ∈ d.weights P t, q ≤ reachBytes
theorem WtOk.part {t : TypeId} {fs : Array Field} (ht : P.underlying t = some (.struct fs)) {xs : List (DataW H × List MemPlace)} (h : WtOk P t (.agg (xs.map (·.1)))) {j : Nat} {f : Field} (hf : fs[j]? = some f) {x : DataW H × List MemPlace} (hx : xs[j]? = some x) : WtOk P f.type x.1 := by
 intro q hq
 refine h q ?_
 unfold DataW.weights
 rw [ht]
 exact DataW.weights_mem_each (j := j) (by simp [hf]) (by simp [hx]) q hq
end
section
variable {H : Type} {enc : TypeId × Value → H} {P : Program}
end
end Go.Proofs.YtbfiopoefbbknaaGreatDoor
