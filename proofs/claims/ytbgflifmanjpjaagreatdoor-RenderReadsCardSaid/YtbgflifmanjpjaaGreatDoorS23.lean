/- Part 23. -/
import Derived.Test.YtbgflifmanjpjaaGreatDoorS22
set_option linter.unusedSimpArgs false
set_option linter.unusedVariables false
namespace Go.Proofs.YtbgflifmanjpjaaGreatDoor
open Go.ChangeShapes Go.WideShapes Go.ChangeAt Go.RowKit Go.Deep
def σW (w:World):Sg:=fun b o=>w.cell? ⟨b,o,none⟩
theorem HA (w:World):Holds (σW w) w:=fun _ _ _ h=>h
section
variable {H:Type} {enc:TypeId×Value→H} {P:Program}
def M6 (P:Program) (t:TypeId) (d:DataW H):Prop:= ∀q∈d.weights P t,q≤reachBytes
end
section
variable {H:Type} {enc:TypeId×Value→H} {P:Program}
end
end Go.Proofs.YtbgflifmanjpjaaGreatDoor
