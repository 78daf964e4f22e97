/- Part 29. -/
import Derived.Test.YtbgflifmanjpjaaGreatDoorS28
import Derived.Shelf.SlSortCmp.Insertion
set_option linter.unusedSimpArgs false
set_option linter.unusedVariables false
namespace Go.Proofs.YtbgflifmanjpjaaGreatDoor
open Go.RowKit
theorem xK (a b:ByteArray):(0<cg a b↔klt b a):=by
 constructor
 ·intro h
  exact En (by omega) (by omega)
 ·intro h
  have i: ¬cg a b<0:=fun g=>by
   have:=iG (ee.1 g) h;exact CO this rfl
  have g:cg a b≠0:=fun g=>by
   rw [gS] at g;subst g;exact CO h rfl
  omega
structure CmpOk {α:Type} (c:α→α→Int):Prop where
 eq: ∀a b,c a b=0↔a=b
 anti: ∀a b,0<c a b↔c b a<0
 trans: ∀a b d,c a b<0→c b d<0→c a d<0
theorem Jv:CmpOk cg where
 eq:=fun a b=>gS
 anti:=fun a b=>by rw [xK,ee]
 trans:=fun a b d h k=>by rw [ee] at*;exact iG h k
theorem CmpOk.by_ {α β:Type} {c:α→α→Int} (g:CmpOk c) {f:β→α} (i: ∀x y,f x=f y→x=y):CmpOk fun x y=>c (f x) (f y) where
 eq:=fun a b=>by rw [g.eq];exact ⟨i a b,fun h=>by rw [h]⟩
 anti:=fun a b=>g.anti _ _
 trans:=fun a b d=>g.trans _ _ _
theorem CmpOk.swo {α:Type} {c:α→α→Int} (i:CmpOk c):Sort.SWO (ltOf c) where
 irrefl:=fun x=>decide_eq_false (by rw [(i.eq x x).2 rfl];omega)
 trans:=fun x y z h k=>decide_eq_true (i.trans x y z (gB3 h) (gB3 k))
 ntrans:=fun x y z h k=>by
  have h:=gB4 h;have k:=gB4 k;refine decide_eq_false fun g=> ?_
  by_cases e:c x y=0
  ·rw [(i.eq x y).1 e] at g
   exact k g
  ·have j:=(i.anti x y).1 (by omega)
   exact k (i.trans y x z j g)
theorem CmpOk.tot {α:Type} {c:α→α→Int} (g:CmpOk c) (x y:α) (h:ltOf c x y=false) (k:ltOf c y x=false):x=y:=by
 have h:=gB4 h;have k:=gB4 k;refine (g.eq x y).1 ?_;by_cases e:0<c x y
 ·exact absurd ((g.anti x y).1 e) k
 ·omega
end Go.Proofs.YtbgflifmanjpjaaGreatDoor
