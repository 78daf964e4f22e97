/- Part 53. -/
import Derived.Test.YtbgflifmanjpjaaGreatDoorS52
import Derived.Test.YtbgflifmanjpjaaGreatDoorCards
import Derived.Test.YtbgflifmanjpjaaGreatDoorTie
import Derived.OpenShut
set_option linter.unusedSimpArgs false
set_option linter.unusedVariables false
namespace Go.Proofs.YtbgflifmanjpjaaGreatDoor
open Go
theorem fj2:laidOutB Tryz.prog=true:=kk
theorem fj3:mapsRowed Tryz.prog=true:=kk
theorem L8:(Rows.chartMakesRow.inPlace==Tryz.prog.inPlace 4)=true:=kk
theorem L9:(Rows.chartMakesRow.unfollowed==Tryz.prog.unfollowed 4)=true:=kk
theorem Ma:(Rows.chartMakesRow.recurses==Tryz.prog.recurses 4)=true:=kk
theorem Mb:(Rows.chartMakesRow.named==Tryz.prog.varsNamed 4)=true:=kk
theorem Mc:(Rows.chartMakesRow.plainKeys==Tryz.prog.plainKeys)=true:=kk
theorem Md:Tryz.prog.stopsHeard=true:=kk
theorem Me:Tryz.prog.mayEnter=true:=kk
theorem Mf:(Rows.chartMakesRow.lifted==Tryz.prog.liftsFinal)=true:=kk
theorem Mg:(Tryz.prog.make==some Rows.chartMakesRow.make)=true:=kk
theorem Li:joinedFacts Tryz.prog 4 Tryz.f4 (OpenSpec.ofChange Rows.chartMakesSpec).bare Rows.chartMakesRow=true:=by
 unfold joinedFacts;rw [fj2,fj3,L8,L9,Ma,Mb,Mc,Md,Me,Mf,Mg];kernel_rfl
end Go.Proofs.YtbgflifmanjpjaaGreatDoor
