/- Part 53. -/
import Derived.Test.YtbgflifmanjpjaaGreatDoorS1
import Derived.Test.YtbgflifmanjpjaaGreatDoorCards
import Derived.Test.YtbgflifmanjpjaaGreatDoorTie
import Derived.OpenShut
set_option linter.unusedSimpArgs false
set_option linter.unusedVariables false
namespace Go.Proofs.YtbgflifmanjpjaaGreatDoor
open Go
theorem fj2:laidOutB Tryz.prog=true:=kk
theorem fj3:mapsRowed Tryz.prog=true:=kk
theorem L3:(Rows.valuesDotsRow.inPlace==Tryz.prog.inPlace 3)=true:=kk
theorem L4:(Rows.valuesDotsRow.unfollowed==Tryz.prog.unfollowed 3)=true:=kk
theorem L5:(Rows.valuesDotsRow.recurses==Tryz.prog.recurses 3)=true:=kk
theorem L6:(Rows.valuesDotsRow.named==Tryz.prog.varsNamed 3)=true:=kk
theorem L7:(Rows.valuesDotsRow.plainKeys==Tryz.prog.plainKeys)=true:=kk
theorem L8:Tryz.prog.stopsHeard=true:=kk
theorem L9:Tryz.prog.mayEnter=true:=kk
theorem Ma:(Rows.valuesDotsRow.lifted==Tryz.prog.liftsFinal)=true:=kk
theorem Mb:(Tryz.prog.make==some Rows.valuesDotsRow.make)=true:=kk
theorem Lm:joinedFacts Tryz.prog 3 Tryz.f3 (OpenSpec.ofChange Rows.valuesDotsSpec).bare Rows.valuesDotsRow=true:=by
 unfold joinedFacts;rw [fj2,fj3,L3,L4,L5,L6,L7,L8,L9,Ma,Mb];kernel_rfl
end Go.Proofs.YtbgflifmanjpjaaGreatDoor
