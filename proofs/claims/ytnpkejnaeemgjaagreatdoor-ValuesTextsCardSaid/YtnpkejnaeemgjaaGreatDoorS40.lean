/-
  The texts that the claim wants, one behind the other: part 40.
-/
import Derived.Test.YtnpkejnaeemgjaaGreatDoorS39
import Derived.Maps.OwnOps
import Derived.Maps.Keyed
import Derived.Carry
set_option linter.unusedSimpArgs false
set_option linter.unusedVariables false
namespace Go.Proofs.YtnpkejnaeemgjaaGreatDoor
open Go.RowKit Go.Maps Go.MapKept Go.ChangeMaps
section
variable {P : Program} {t k e : TypeId}
theorem grown_belowK {w w' : World} {g : Nat} {K : Nat → Prop} (h : w.grownBy w' (some g)) (hK : K g) : BelowK K w w' := ⟨h.os, h.tape, h.output, h.size, fun i hi hn => h.block i hi fun e => hn (by cases e; exact hK)⟩
end
end Go.Proofs.YtnpkejnaeemgjaaGreatDoor
