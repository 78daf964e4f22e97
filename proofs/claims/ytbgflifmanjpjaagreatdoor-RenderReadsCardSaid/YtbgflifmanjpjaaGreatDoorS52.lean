/- Part 52. -/
import Derived.Test.YtbgflifmanjpjaaGreatDoorS1
import Derived.Test.YtbgflifmanjpjaaGreatDoorCards
import Derived.Test.YtbgflifmanjpjaaGreatDoorTie
import Derived.OpenShut
set_option linter.unusedSimpArgs false
set_option linter.unusedVariables false
namespace Go.Proofs.YtbgflifmanjpjaaGreatDoor
open Go
theorem fj2:laidOutB Tryz.prog=true:=kk
theorem fj3:mapsRowed Tryz.prog=true:=kk
theorem Ot:(Rows.renderReadsRow.inPlace==Tryz.prog.inPlace 6)=true:=kk
theorem Ou:(Rows.renderReadsRow.unfollowed==Tryz.prog.unfollowed 6)=true:=kk
theorem Ov:(Rows.renderReadsRow.recurses==Tryz.prog.recurses 6)=true:=kk
theorem Ow:(Rows.renderReadsRow.named==Tryz.prog.varsNamed 6)=true:=kk
theorem Ox:(Rows.renderReadsRow.plainKeys==Tryz.prog.plainKeys)=true:=kk
theorem Oy:Tryz.prog.stopsHeard=true:=kk
theorem Oz:Tryz.prog.mayEnter=true:=kk
theorem OA:(Rows.renderReadsRow.lifted==Tryz.prog.liftsFinal)=true:=kk
theorem OB:(Tryz.prog.make==some Rows.renderReadsRow.make)=true:=kk
theorem Nt:joinedFacts Tryz.prog 6 Tryz.f6 (OpenSpec.ofChange Rows.renderReadsSpec).bare Rows.renderReadsRow=true:=by
 unfold joinedFacts;rw [fj2,fj3,Ot,Ou,Ov,Ow,Ox,Oy,Oz,OA,OB];kernel_rfl
end Go.Proofs.YtbgflifmanjpjaaGreatDoor
