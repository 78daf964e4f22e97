/- Part 25. -/
import Derived.Test.YtbgflifmanjpjaaGreatDoorS24
import Derived.Shelf.SlSortCmp.Insertion
set_option linter.unusedSimpArgs false
set_option linter.unusedVariables false
namespace Go.Proofs.YtbgflifmanjpjaaGreatDoor
open Go.RowKit
def CG:List ByteArray:= [⟨#[78,97,109,101,115,112,97,99,101]⟩,⟨#[83,101,99,114,101,116]⟩,⟨#[67,111,110,102,105,103,77,97,112]⟩,⟨#[86,111,108,117,109,101]⟩,⟨#[65,99,99,111,117,110,116]⟩,⟨#[82,111,108,101]⟩,⟨#[83,101,114,118,105,99,101]⟩,⟨#[68,101,112,108,111,121,109,101,110,116]⟩,⟨#[74,111,98]⟩,⟨#[73,110,103,114,101,115,115]⟩]
def fO (k:ByteArray):List ByteArray→Nat
 | []=>0
 |x::l=>if x=k then 0 else fO k l+1
def eI (k:ByteArray):Nat:=fO k CG
theorem yY (k:ByteArray): ∀l,fO k l≤l.length
 | []=>gA4 _
 |x::l=>by have:=yY k l;rw [fO];split<;>simp<;>omega
theorem Lt (k:ByteArray):eI k≤10:=yY k CG
def wy (a b:Int):Int:=if a<b then-1 else if b<a then 1 else 0
theorem yZ (a b:ByteArray):(0<bW a b↔klt b a):=by
 constructor
 ·intro h
  exact F2 (by omega) (by omega)
 ·intro h
  have i: ¬bW a b<0:=fun g=>by
   have:=jd (eE.1 g) h;exact D8 this rfl
  have g:bW a b≠0:=fun g=>by
   rw [ip] at g;subst g;exact D8 h rfl
  omega
structure CmpOk {α:Type} (c:α→α→Int):Prop where
 eq: ∀a b,c a b=0↔a=b
 anti: ∀a b,0<c a b↔c b a<0
 trans: ∀a b d,c a b<0→c b d<0→c a d<0
theorem Lu:CmpOk bW where
 eq:=fun a b=>ip
 anti:=fun a b=>by rw [yZ,eE]
 trans:=fun a b d h k=>by rw [eE] at*;exact jd h k
theorem CmpOk.by_ {α β:Type} {c:α→α→Int} (g:CmpOk c) {f:β→α} (i: ∀x y,f x=f y→x=y):CmpOk fun x y=>c (f x) (f y) where
 eq:=fun a b=>by rw [g.eq];exact ⟨i a b,fun h=>by rw [h]⟩
 anti:=fun a b=>g.anti _ _
 trans:=fun a b d=>g.trans _ _ _
theorem CmpOk.swo {α:Type} {c:α→α→Int} (i:CmpOk c):Sort.SWO (ltOf c) where
 irrefl:=fun x=>decide_eq_false (by rw [(i.eq x x).2 rfl];omega)
 trans:=fun x y z h k=>decide_eq_true (i.trans x y z (gB3 h) (gB3 k))
 ntrans:=fun x y z h k=>by
  have h:=gB4 h;have k:=gB4 k;refine decide_eq_false fun g=> ?_
  by_cases e:c x y=0
  ·rw [(i.eq x y).1 e] at g
   exact k g
  ·have j:=(i.anti x y).1 (by omega)
   exact k (i.trans y x z j g)
theorem CmpOk.tot {α:Type} {c:α→α→Int} (g:CmpOk c) (x y:α) (h:ltOf c x y=false) (k:ltOf c y x=false):x=y:=by
 have h:=gB4 h;have k:=gB4 k;refine (g.eq x y).1 ?_;by_cases e:0<c x y
 ·exact absurd ((g.anti x y).1 e) k
 ·omega
end Go.Proofs.YtbgflifmanjpjaaGreatDoor
