/- Part 21. -/
import Derived.Test.YtbgflifmanjpjaaGreatDoorS20
set_option linter.unusedSimpArgs false
set_option linter.unusedVariables false
namespace Go.Proofs.YtbgflifmanjpjaaGreatDoor
section
open Go.RowKit
theorem Hv (n:Nat): ∀v:V,v.size≤n→v.size≤2000000000000→AC Tryz.prog 69 [(vA (v))] (.int .i64 v.size):=by
 induction n with
 |zero=>intro v h;have:=v.size_pos;omega
 |succ n ih=>
  intro v hn hsz;have i:=v.size_eq;have r:=br v.l;have C:=aZ v.m;refine kE Tryz.func69 tz tC fun E P=> ?_
  refine kW ?_;refine aJ (fun k:Nat=>(ar [(1,.ptr 1 0),(3,.int .i64 ((1+aK (v.l.take k):Nat):Int)),(4,.int .i64 k)],⟨ag [(1,(vC (v)),false)],fun _=>0⟩)) (fun k=>k≤v.l.length) (fun k=>v.l.length-k) 0 (by omega) (wO ⟨kI,kI,kI,trivial⟩ ⟨kJ,trivial⟩ rfl rfl) fun k I=> ?_
  refine kW ?_;refine kC (fun hb=> ?_) fun hb=> ?_
  ·have g:k<v.l.length:=by simpa [aB] using hb
   obtain ⟨x,hg⟩: ∃x,v.l[k]? =some x:=⟨_,gA1 g⟩
   have J:=ed hg;have j:=cn v.l (k+1);refine kW ?_;refine kP [.c (vC (x)),.v (.int .i64 x.size)] ?_ ?_
   ·((repeat' apply aI)<;>first|exact kD|(intro p;refine ⟨?_,kG⟩;(repeat' apply aI)<;>first|exact kD|skip)|skip)
    ·exact dh hg
    ·exact ih x (by omega) (by omega)
   refine kW ?_;exact AK.lp ⟨k+1,by omega,wO ⟨kI,kU,kU,trivial⟩ ⟨kJ,trivial⟩ rfl rfl,by omega⟩
  ·have g:k=v.l.length:=by have:v.l.length≤k:=by simpa [aB] using hb
                           omega
   subst g;rw [List.take_length];refine AK.exit rfl ?_;refine kW ?_;refine aJ (fun k:Nat=>(ar [(1,.ptr 1 0),(3,.int .i64 ((1+aK v.l+aA (v.m.take k):Nat):Int)),(5,.int .i64 k)],⟨ag [(1,(vC (v)),false)],fun _=>0⟩)) (fun k=>k≤v.m.length) (fun k=>v.m.length-k) 0 (by omega) (wO ⟨kI,kI,kI,trivial⟩ ⟨kJ,trivial⟩ rfl rfl) fun k I=> ?_
   refine kW ?_;refine kC (fun hb=> ?_) fun hb=> ?_
   ·have g:k<v.m.length:=by simpa [ak] using hb
    obtain ⟨⟨y,x⟩,hg⟩: ∃x,v.m[k]? =some x:=⟨_,gA1 g⟩
    have J:=ee hg;have j:=bV v.m (k+1);refine kW ?_;refine kP [.c (.str y::(vC (x))),.v (.int .i64 x.size)] ?_ ?_
    ·((repeat' apply aI)<;>first|exact kD|(intro p;refine ⟨?_,kG⟩;(repeat' apply aI)<;>first|exact kD|skip)|skip)
     ·exact aV hg
     ·exact ih x (by omega) (by omega)
    refine kW ?_;exact AK.lp ⟨k+1,by omega,wO ⟨kI,kU,kU,trivial⟩ ⟨kJ,trivial⟩ rfl rfl,by omega⟩
   ·have g:k=v.m.length:=by have:v.m.length≤k:=by simpa [ak] using hb
                            omega
    subst g;rw [List.take_length];refine AK.exit rfl ?_;refine kW ?_;refine aR ⟨_,rfl,?_⟩;rw [i];rfl
theorem EI (n:Nat): ∀v:V,v.size≤n→v.size≤2000000000000→AC Tryz.prog 68 [(vA (v))] (.int .i64 v.depth):=by
 induction n with
 |zero=>intro v h;have:=v.size_pos;omega
 |succ n ih=>
  intro v hn hsz;have P:=v.size_eq;have i:=v.depth_eq;have R:=v.depth_le_size';have T:=br v.l;have U:=aZ v.m;refine kE Tryz.func68 qS qT fun E hE=> ?_
  refine kW ?_;refine aJ (fun k:Nat=>(ar [(1,.ptr 1 0),(3,.int .i64 (bU (v.l.take k):Nat)),(4,.int .i64 k)],⟨ag [(1,(vC (v)),false)],fun _=>0⟩)) (fun k=>k≤v.l.length) (fun k=>v.l.length-k) 0 (by omega) (wO ⟨kI,kI,kI,trivial⟩ ⟨kJ,trivial⟩ rfl rfl) fun k hk=> ?_
  refine kW ?_;refine kC (fun hb=> ?_) fun hb=> ?_
  ·have g:k<v.l.length:=by simpa [aB] using hb
   obtain ⟨x,hg⟩: ∃x,v.l[k]? =some x:=⟨_,gA1 g⟩
   have hx:=ed hg;have j:=cn v.l (k+1);have hd:=so hg;have p:=lJ v.l (k+1);have r:=lJ v.l k;have C:=x.depth_le_size';refine kW ?_;refine kP [.c (vC (x)),.v (.int .i64 x.depth)] ?_ ?_
   ·((repeat' apply aI)<;>first|exact kD|(intro I;refine ⟨?_,kG⟩;(repeat' apply aI)<;>first|exact kD|skip)|skip)
    ·exact dh hg
    ·exact ih x (by omega) (by omega)
   refine kW ?_;refine kC (fun hb=> ?_) fun hb=> ?_
   ·have J:bU (v.l.take k)<x.depth:=by simpa using hb
    refine kW ?_;exact AK.lp ⟨k+1,by omega,wO ⟨kI,kU,kU,trivial⟩ ⟨kJ,trivial⟩ rfl rfl,by omega⟩
   ·have J:x.depth≤bU (v.l.take k):=by simpa using hb
    refine kW ?_;exact AK.lp ⟨k+1,by omega,wO ⟨kI,kU,kU,trivial⟩ ⟨kJ,trivial⟩ rfl rfl,by omega⟩
  ·have g:k=v.l.length:=by have:v.l.length≤k:=by simpa [aB] using hb
                           omega
   subst g;rw [List.take_length];refine AK.exit rfl ?_;refine kW ?_;refine aJ (fun k:Nat=>(ar [(1,.ptr 1 0),(3,.int .i64 (max (bU v.l) (b7 (v.m.take k)):Nat)),(6,.int .i64 k)],⟨ag [(1,(vC (v)),false)],fun _=>0⟩)) (fun k=>k≤v.m.length) (fun k=>v.m.length-k) 0 (by omega) (wO ⟨kI,⟨_,rfl,.of_eq (by simp [b7])⟩,kI,trivial⟩ ⟨kJ,trivial⟩ rfl rfl) fun k hk=> ?_
   refine kW ?_;refine kC (fun hb=> ?_) fun hb=> ?_
   ·have g:k<v.m.length:=by simpa [ak] using hb
    obtain ⟨⟨y,x⟩,hg⟩: ∃x,v.m[k]? =some x:=⟨_,gA1 g⟩
    have hx:=ee hg;have j:=bV v.m (k+1);have hd:=sq hg;have p:=lK v.m (k+1);have r:=lK v.m k;have C:=x.depth_le_size';refine kW ?_;refine kP [.c (.str y::(vC (x))),.v (.int .i64 x.depth)] ?_ ?_
    ·((repeat' apply aI)<;>first|exact kD|(intro I;refine ⟨?_,kG⟩;(repeat' apply aI)<;>first|exact kD|skip)|skip)
     ·exact aV hg
     ·exact ih x (by omega) (by omega)
    refine kW ?_;refine kC (fun hb=> ?_) fun hb=> ?_
    ·have J:max (bU v.l) (b7 (v.m.take k))<x.depth:=by simpa using hb
     refine kW ?_;exact AK.lp ⟨k+1,by omega,wO ⟨kI,kU,kU,trivial⟩ ⟨kJ,trivial⟩ rfl rfl,by omega⟩
    ·have J:x.depth≤max (bU v.l) (b7 (v.m.take k)):=by simpa using hb
     refine kW ?_;exact AK.lp ⟨k+1,by omega,wO ⟨kI,kU,kU,trivial⟩ ⟨kJ,trivial⟩ rfl rfl,by omega⟩
   ·have g:k=v.m.length:=by have:v.m.length≤k:=by simpa [ak] using hb
                            omega
    subst g;rw [List.take_length];refine AK.exit rfl ?_;refine kW ?_;refine aR ⟨_,rfl,?_⟩;rw [aD (by omega) (by omega),i];rfl
theorem JF (s:ByteArray) (p:s.size≤140737488355328):AC Tryz.prog 119 [.str s] (.bool (qJ s)):=by
 refine kE Tryz.func119 v6 v7 fun E r=> ?_
 refine kW ?_;refine aJ (fun k:Nat=>(ar [(0,.str s),(3,.int .i64 k)],⟨ag [],fun _=>0⟩)) (fun k=>k≤s.size∧sr okK s k) (fun k=>s.size-k) 0 ⟨by omega,jS _ _⟩ (wO ⟨kI,kI,trivial⟩ trivial rfl rfl) fun k ⟨C,i⟩=> ?_
 refine kW ?_;refine kC (fun hb=> ?_) fun hb=> ?_
 ·have g:k<s.size:=by simpa using hb
  refine kW ?_;refine kQ [] ?_;rw [show s.data.getD (k:Int).toNat 0=s[k] from io g];refine kC (fun hb=> ?_) fun hb=> ?_
  ·refine kW ?_
   refine aR ⟨_,rfl,?_⟩
   have j:okK s[k]=false:=by
    simp only [Bool.or_eq_true,gB0] at hb;simp only [okK,Bool.and_eq_false_iff,decide_eq_false_iff_not];omega
   rw [qJ,jU g j];rfl
  ·have ht:okK s[k]=true:=by
    simp only [Bool.or_eq_false_iff,decide_eq_false_iff_not] at hb;simp only [okK,gA9,gB0];omega
   refine kW ?_;exact AK.lp ⟨k+1,⟨by omega,jT i g ht⟩,wO ⟨kI,kU,trivial⟩ trivial rfl rfl,by omega⟩
 ·have g:k=s.size:=by have:s.size≤k:=by simpa using hb
                      omega
  subst g;refine AK.exit rfl ?_;refine kW ?_;refine kQ [] ?_;refine kW ?_;refine aR ⟨_,rfl,?_⟩;show AV.bool _=AV.bool _;refine congrArg AV.bool ?_;rw [qJ,mA i,Bool.eq_iff_iff];simp
  try omega
end
section
open Go.RowKit
theorem Ga {v:V}:lL v.kind v.b v.n v.s v.l.length v.m.length=(decide (v.kind<0)||decide (v.kind>5)|| !decide (v.kind=1)&&v.b|| !decide (v.kind=2)&& !decide (v.n=0)|| !decide (v.kind=3)&& !decide (v.s={data:= #[]})||
  !decide (v.kind=4)&&decide (((aL v.l).length:Int)>0)|| !decide (v.kind=5)&&decide (((am v.m).length:Int)>0)):=by
 rw [aB,ak];unfold lL mz;rw [Bool.eq_iff_iff];simp
theorem sE {v:V} (h:lL v.kind v.b v.n v.s v.l.length v.m.length=true):v.partsC=8:=by rw [V.partsC_eq,if_pos h]
theorem sF {v:V} (h:lL v.kind v.b v.n v.s v.l.length v.m.length=false) (ht:dE v.s=false):v.partsC=10:=by rw [V.partsC_eq,if_neg (by simp [h]),if_pos ht]
theorem sG {v:V} (h:lL v.kind v.b v.n v.s v.l.length v.m.length=false) (ht:dE v.s=true) (hl:cH v.l≠0):v.partsC=cH v.l:=by rw [V.partsC_eq,if_neg (by simp [h]),if_neg (by simp [ht]),if_pos hl]
theorem wt {v:V} (h:lL v.kind v.b v.n v.s v.l.length v.m.length=false) (ht:dE v.s=true) (hl:cH v.l=0):v.partsC=gG none v.m:=by rw [V.partsC_eq,if_neg (by simp [h]),if_neg (by simp [ht]),if_neg (by simp [hl])]
theorem Hw {m:List (ByteArray×V)} {k:Nat} {y z:ByteArray} {x' :V} (g:0<k→m[k-1]? =some (z,x')):jX (kZ m k) y=(decide ((k:Int)>0)&& !Op.bytesLess z.toList y.toList):=by
 cases k with
 |zero=>simp [kZ,jX]
 |succ k=>
  have:=g (by omega);simp only [Nat.add_sub_cancel] at this;have e:decide (((k+1:Nat):Int)>0)=true:=decide_eq_true (by omega);rw [kZ,this,e];simp [jX]
set_option maxRecDepth 4000 in
theorem EJ (n:Nat): ∀v:V,v.size≤n→v.sb→v.size≤2000000000000→AC Tryz.prog 70 [(vA (v))] (.int .i64 v.partsC):=by
 induction n with
 |zero=>intro v h;have:=v.size_pos;omega
 |succ n ih=>
  intro v hn j hsz;have T:=v.size_eq;have U:=br v.l;have hlm:=aZ v.m;refine kE Tryz.func70 qU qW fun E hE=> ?_
  refine kW ?_;refine kQ [] ?_;refine kC (fun hb=> ?_) fun hb=> ?_
  ·refine kW ?_
   refine aR ⟨_,rfl,?_⟩;exact congrArg (AV.int _) (sE (Ga.trans hb)).symm
  have r:=Ga.trans hb;refine kW ?_;refine kP [.v (.bool (dE v.s))] ?_ ?_
  ·((repeat' apply aI)<;>first|exact kD|(intro i;refine ⟨?_,kG⟩;(repeat' apply aI)<;>first|exact kD|skip)|skip)
   ·exact Hh _ (NF j)
  refine kC (fun hb=> ?_) fun hb=> ?_
  ·refine kW ?_
   refine aR ⟨_,rfl,?_⟩;exact congrArg (AV.int _) (sF r (by simpa using hb)).symm
  have C:dE v.s=true:=by simpa using hb
  refine kW ?_;refine aJ (fun k:Nat=>(ar [(1,.ptr 1 0),(3,.int .i64 k)],⟨ag [(1,(vC (v)),false)],fun _=>0⟩)) (fun k=>k≤v.l.length∧cH (v.l.drop k)=cH v.l) (fun k=>v.l.length-k) 0 ⟨by omega,rfl⟩ (wO ⟨kI,kI,trivial⟩ ⟨kJ,trivial⟩ rfl rfl) fun k ⟨hk,hr⟩=> ?_
  refine kW ?_;refine kC (fun hb=> ?_) fun hb=> ?_
  ·have g:k<v.l.length:=by simpa [aB] using hb
   obtain ⟨x,hg⟩: ∃x,v.l[k]? =some x:=⟨_,gA1 g⟩
   have hx:=ed hg;have J:=cn v.l (k+1);rw [su hg] at hr;refine kW ?_;refine kP [.c (vC (x)),.v (.int .i64 x.partsC)] ?_ ?_
   ·((repeat' apply aI)<;>first|exact kD|(intro i;refine ⟨?_,kG⟩;(repeat' apply aI)<;>first|exact kD|skip)|skip)
    ·exact dh hg
    ·exact ih x (by omega) (NE j hg) (by omega)
   refine kW ?_;refine kC (fun hb=> ?_) fun hb=> ?_
   ·have p:x.partsC≠0:=by simpa using hb
    rw [if_pos p] at hr;refine kW ?_;refine aR ⟨_,rfl,?_⟩;exact congrArg (AV.int _) (by rw [sG r C (by rw [←hr];exact p)];exact hr)
   ·have p: ¬x.partsC≠0:=by simpa using hb
    rw [if_neg p] at hr;refine kW ?_;exact AK.lp ⟨k+1,⟨by omega,hr⟩,wO ⟨kI,kU,trivial⟩ ⟨kJ,trivial⟩ rfl rfl,by omega⟩
  ·have g:k=v.l.length:=by have:v.l.length≤k:=by simpa [aB] using hb
                           omega
   subst g;have P:cH v.l=0:=by rw [←hr,List.drop_length];rfl
   clear hr;refine AK.exit rfl ?_;refine kW ?_;refine aJ (fun k:Nat=>(ar [(1,.ptr 1 0),(5,.int .i64 k)],⟨ag [(1,(vC (v)),false)],fun _=>0⟩)) (fun k=>k≤v.m.length∧gG (kZ v.m k) (v.m.drop k)=v.partsC) (fun k=>v.m.length-k) 0 ⟨by omega,(wt r C P).symm⟩ (wO ⟨kI,kI,trivial⟩ ⟨kJ,trivial⟩ rfl rfl) fun k ⟨hk,hr⟩=> ?_
   refine kW ?_;refine kC (fun hb=> ?_) fun hb=> ?_
   ·have g:k<v.m.length:=by simpa [ak] using hb
    obtain ⟨⟨y,x⟩,hg⟩: ∃x,v.m[k]? =some x:=⟨_,gA1 g⟩
    obtain ⟨z,x',R⟩: ∃z x',0<k→v.m[k-1]? =some (z,x'):=by
     by_cases I:0<k
     ·exact ⟨(v.m[k-1]'(by omega)).1,(v.m[k-1]'(by omega)).2,fun _=>gA1 (by omega)⟩
     ·exact ⟨y,x,fun h=>absurd h I⟩
    have hx:=ee hg;have J:=bV v.m (k+1);rw [sv hg] at hr;refine kW ?_;refine kP [.c (.str y::(vC (x))),.v (.bool (qJ y))] ?_ ?_
    ·((repeat' apply aI)<;>first|exact kD|(intro i;refine ⟨?_,kG⟩;(repeat' apply aI)<;>first|exact kD|skip)|skip)
     ·exact aV hg
     ·exact JF _ (Lc j hg).1
    refine kC (fun hb=> ?_) fun hb=> ?_
    ·refine kW ?_
     refine aR ⟨_,rfl,?_⟩;exact congrArg (AV.int _) (by rw [←hr,if_pos (by simpa using hb)])
    rw [if_neg (by simpa using hb)] at hr;refine kW ?_;refine kP [.c (.str y::(vC (x))),.c (.str z::(vC (x')))] ?_ ?_
    ·((repeat' apply aI)<;>first|exact kD|(intro i;refine ⟨?_,kG⟩;(repeat' apply aI)<;>first|exact kD|skip)|skip)
     ·exact aV hg
     ·have I:0<k:=by simpa [gd] using i
      rw [aD (by omega) (by omega)];omega
     ·have I:0<k:=by simpa [gd] using i
      rw [aD (by omega) (by omega),show ((k:Int)-1).toNat=k-1 by omega];exact aV (R I)
    have hn:=Hw (y:=y) R;refine kC (fun hb=> ?_) fun hb=> ?_
    ·refine kW ?_
     refine aR ⟨_,rfl,?_⟩;exact congrArg (AV.int _) (by rw [←hr,if_pos (hn.trans hb)])
    rw [if_neg (by rw [hn,hb];decide)] at hr;refine kW ?_;refine kP [.c (.str y::(vC (x))),.v (.int .i64 x.partsC)] ?_ ?_
    ·((repeat' apply aI)<;>first|exact kD|(intro i;refine ⟨?_,kG⟩;(repeat' apply aI)<;>first|exact kD|skip)|skip)
     ·exact aV hg
     ·exact ih x (by omega) (Lc j hg).2 (by omega)
    refine kW ?_;refine kC (fun hb=> ?_) fun hb=> ?_
    ·have p:x.partsC≠0:=by simpa using hb
     rw [if_pos p] at hr;refine kW ?_;refine aR ⟨_,rfl,?_⟩;exact congrArg (AV.int _) hr
    ·have p: ¬x.partsC≠0:=by simpa using hb
     rw [if_neg p] at hr;refine kW ?_;exact AK.lp ⟨k+1,⟨by omega,hr⟩,wO ⟨kI,kU,trivial⟩ ⟨kJ,trivial⟩ rfl rfl,by omega⟩
   ·have g:k=v.m.length:=by have:v.m.length≤k:=by simpa [ak] using hb
                            omega
    subst g;refine AK.exit rfl ?_;refine kW ?_;refine aR ⟨_,rfl,?_⟩;exact congrArg (AV.int _) (by rw [←hr,List.drop_length];rfl)
theorem EK (v:V) (j:v.sb) (hsz:v.size≤2000000000000):AC Tryz.prog 34 [(vA (v))] (.int .i64 v.checkC):=by
 refine kE Tryz.func34 qX qY fun E r=> ?_
 refine kW ?_;refine kP [.v (.int .i64 v.depth)] ?_ ?_
 ·((repeat' apply aI)<;>first|exact kD|(intro g;refine ⟨?_,kG⟩;(repeat' apply aI)<;>first|exact kD|skip)|skip)
  ·exact EI _ v (gA4 _) hsz
 refine kC (fun hb=> ?_) fun hb=> ?_
 ·have i:16<v.depth:=by have:(16:Int)<v.depth:=by simpa using hb
                        omega
  refine kW ?_;refine aR ⟨_,rfl,?_⟩;exact congrArg (AV.int _) (by rw [V.checkC,if_pos i])
 have i: ¬16<v.depth:=by have:(v.depth:Int)≤16:=by simpa using hb
                         omega
 refine kW ?_;refine kP [.v (.int .i64 v.size)] ?_ ?_
 ·((repeat' apply aI)<;>first|exact kD|(intro g;refine ⟨?_,kG⟩;(repeat' apply aI)<;>first|exact kD|skip)|skip)
  ·exact Hv _ v (gA4 _) hsz
 refine kC (fun hb=> ?_) fun hb=> ?_
 ·have p:4096<v.size:=by have:(4096:Int)<v.size:=by simpa using hb
                         omega
  refine kW ?_;refine aR ⟨_,rfl,?_⟩;exact congrArg (AV.int _) (by rw [V.checkC,if_neg i,if_pos p])
 have p: ¬4096<v.size:=by have:(v.size:Int)≤4096:=by simpa using hb
                          omega
 refine kW ?_;refine kP [.v (.int .i64 v.partsC)] ?_ ?_
 ·((repeat' apply aI)<;>first|exact kD|(intro g;refine ⟨?_,kG⟩;(repeat' apply aI)<;>first|exact kD|skip)|skip)
  ·exact EJ _ v (gA4 _) j hsz
 refine kW ?_;refine aR ⟨_,rfl,?_⟩;exact congrArg (AV.int _) (by rw [V.checkC,if_neg i,if_neg p])
theorem sH (s:ByteArray) (c:UInt8):AC Tryz.prog 175 [.str s,.str ⟨#[c]⟩] (.bool (decide (c∈s.data.toList))):=by
 refine ⟨by kernel_rfl,fun σ w vs p hr hg=> ?_⟩;obtain ⟨v1,v2,rfl,g,j⟩:=pM hr;have g:Rel1 σ v1 (.str s):=g;have j:Rel1 σ v2 (.str ⟨#[c]⟩):=j;cases g;cases j;refine (Tryz.strings_Contains_one s c w).mono ?_;rintro e w' ⟨rfl,rfl⟩
 have e:decide (0≤Lib.indexByte s.data.toList c)=decide (c∈s.data.toList):=by
  rcases vZ s.data.toList c with ⟨g,j⟩|⟨i,g,j,r,C⟩
  ·rw [g,decide_eq_false j];rfl
  ·rw [g,decide_eq_true (show 0≤(i:Int) by omega),decide_eq_true (gA2 r)]
 rw [e];exact ⟨σ,_,rfl,Ext.refl _ _,p,Below.refl _ _,.bool _⟩
theorem M4 (s:ByteArray):qJ s=((decide (1≤s.size)&&decide (s.size≤256))&&dE s&& !decide (10∈s.data.toList)&& !decide (9∈s.data.toList)):=by
 rw [Bool.eq_iff_iff];simp only [qJ,dE,zP,gA9,Bool.not_eq_true',gB0,decide_eq_false_iff_not,List.all_eq_true];constructor
 ·rintro ⟨g,j,p⟩
  refine ⟨⟨⟨⟨j,p⟩,fun x i=> ?_,by omega⟩,fun r=> ?_⟩,fun r=> ?_⟩
  ·have:=g x i
   simp only [okK,gA9,gB0] at this;simp [okT,this]
  ·have:=g _ r
   exact absurd this (by decide)
  ·have:=g _ r
   exact absurd this (by decide)
 ·rintro ⟨⟨⟨⟨j,p⟩,g,_⟩,C⟩,I⟩
  refine ⟨fun x i=> ?_,j,p⟩;have:=g x i;simp only [okT,Bool.or_eq_true,gA9,gB0,beq_iff_eq] at this;simp only [okK,gA9,gB0];rcases this with (h|h)|h
  ·exact h
  ·exact absurd (show (9:UInt8)∈s.data.toList by rw [←show x=9 from UInt8.toNat_inj.1 h];exact i) I
  ·exact absurd (show (10:UInt8)∈s.data.toList by rw [←show x=10 from UInt8.toNat_inj.1 h];exact i) C
theorem Hx (s:ByteArray) (r:s.size≤140737488355328):AC Tryz.prog 152 [.str s] (.bool (qJ s)):=by
 have C:=ws s r;have I:=sH s 10;have J:=sH s 9;refine kE Tryz.func152 xG xH fun E P=> ?_
 refine kW ?_;refine kQ [.v (.bool (dE s)),.v (.bool (decide (10∈s.data.toList))),.v (.bool (decide (9∈s.data.toList)))] ?_;refine kW ?_;refine aR ⟨_,rfl,?_⟩;refine congrArg AV.bool ?_;rw [M4];have j:=sz0 s;by_cases p:s.size=0
 ·have:=j.2 p
  subst this;rfl
 ·have hn: ¬s=⟨#[]⟩:=fun e=>p (j.1 e)
  have i:1≤s.size:=by omega
  have g:decide ((s.size:Int)≤256)=decide (s.size≤256):=by rw [Bool.eq_iff_iff];simp;omega
  rw [decide_eq_false hn,decide_eq_true i,g];rfl
end
section
open Go.RowKit
theorem Hy {m:List (ByteArray×V)} {k:Nat} {y z:ByteArray} {x' :V} (g:0<k→m[k-1]? =some (z,x')):jX (kZ m k) y=(decide ((k:Int)>0)&& !Op.bytesLess z.toList y.toList):=by
 cases k with
 |zero=>simp [kZ,jX]
 |succ k=>
  have:=g (by omega);simp only [Nat.add_sub_cancel] at this;have e:decide (((k+1:Nat):Int)>0)=true:=decide_eq_true (by omega);rw [kZ,this,e];simp [jX]
set_option maxRecDepth 4000 in
theorem Cw (n:Nat): ∀v:V,v.size≤n→v.sb→v.size≤2000000000000→AC Tryz.prog 97 [(vA (v))] (.int .i64 v.partsC):=by
 induction n with
 |zero=>intro v h;have:=v.size_pos;omega
 |succ n ih=>
  intro v hn j hsz;have T:=v.size_eq;have U:=br v.l;have hlm:=aZ v.m;refine kE Tryz.func97 tf th fun E hE=> ?_
  refine kW ?_;refine kP [.v (.bool (!lL v.kind v.b v.n v.s v.l.length v.m.length))] ?_ ?_
  ·((repeat' apply aI)<;>first|exact kD|(intro g;refine ⟨?_,kG⟩;(repeat' apply aI)<;>first|exact kD|skip)|skip)
   ·exact Ll v
  refine kC (fun hb=> ?_) fun hb=> ?_
  ·refine kW ?_
   refine aR ⟨_,rfl,?_⟩;exact congrArg (AV.int _) (sE (by simpa using hb)).symm
  have r:lL v.kind v.b v.n v.s v.l.length v.m.length=false:=by simpa using hb
  refine kW ?_;refine kP [.v (.bool (dE v.s))] ?_ ?_
  ·((repeat' apply aI)<;>first|exact kD|(intro g;refine ⟨?_,kG⟩;(repeat' apply aI)<;>first|exact kD|skip)|skip)
   ·exact ws _ (NF j)
  refine kC (fun hb=> ?_) fun hb=> ?_
  ·refine kW ?_
   refine aR ⟨_,rfl,?_⟩;exact congrArg (AV.int _) (sF r (by simpa using hb)).symm
  have C:dE v.s=true:=by simpa using hb
  refine kW ?_;refine aJ (fun k:Nat=>(ar [(1,.ptr 1 0),(19,.lst .any 6 (aL v.l)),(20,.int .i64 (aL v.l).length),(21,.int .i64 k)],⟨ag [(1,(vC (v)),false)],fun _=>0⟩)) (fun k=>k≤v.l.length∧cH (v.l.drop k)=cH v.l) (fun k=>v.l.length-k) 0 ⟨by omega,rfl⟩ (wO ⟨kI,kI,kI,kI,trivial⟩ ⟨kJ,trivial⟩ rfl rfl) fun k ⟨hk,hr⟩=> ?_
  refine kW ?_;refine kC (fun hb=> ?_) fun hb=> ?_
  ·have i:k<v.l.length:=by simpa [aB] using hb
   obtain ⟨x,hg⟩: ∃x,v.l[k]? =some x:=⟨_,gA1 i⟩
   have hx:=ed hg;have J:=cn v.l (k+1);rw [su hg] at hr;refine kW ?_;refine kP [.c (vC (x))] ?_ ?_
   ·((repeat' apply aI)<;>first|exact kD|(intro g;refine ⟨?_,kG⟩;(repeat' apply aI)<;>first|exact kD|skip)|skip)
    ·exact dh hg
   refine kW ?_;refine kP [.v (.int .i64 x.partsC)] ?_ ?_
   ·((repeat' apply aI)<;>first|exact kD|(intro g;refine ⟨?_,kG⟩;(repeat' apply aI)<;>first|exact kD|skip)|skip)
    ·exact ih x (by omega) (NE j hg) (by omega)
   refine kW ?_;refine kC (fun hb=> ?_) fun hb=> ?_
   ·have p:x.partsC≠0:=by simpa using hb
    rw [if_pos p] at hr;refine kW ?_;refine aR ⟨_,rfl,?_⟩;exact congrArg (AV.int _) (by rw [sG r C (by rw [←hr];exact p)];exact hr)
   ·have p: ¬x.partsC≠0:=by simpa using hb
    rw [if_neg p] at hr;refine kW ?_;exact AK.lp ⟨k+1,⟨by omega,hr⟩,wO ⟨kI,kI,kI,kU,trivial⟩ ⟨kJ,trivial⟩ rfl rfl,by omega⟩
  ·have i:k=v.l.length:=by have:v.l.length≤k:=by simpa [aB] using hb
                           omega
   subst i;have P:cH v.l=0:=by rw [←hr,List.drop_length];rfl
   clear hr;refine AK.exit rfl ?_;refine kW ?_;refine aJ (fun k:Nat=>(ar [(1,.ptr 1 0),(32,.lst .any 7 (am v.m)),(33,.int .i64 (am v.m).length),(34,.int .i64 k)],⟨ag [(1,(vC (v)),false)],fun _=>0⟩)) (fun k=>k≤v.m.length∧gG (kZ v.m k) (v.m.drop k)=v.partsC) (fun k=>v.m.length-k) 0 ⟨by omega,(wt r C P).symm⟩ (wO ⟨kI,kI,kI,kI,trivial⟩ ⟨kJ,trivial⟩ rfl rfl) fun k ⟨hk,hr⟩=> ?_
   refine kW ?_;refine kC (fun hb=> ?_) fun hb=> ?_
   ·have i:k<v.m.length:=by simpa [ak] using hb
    obtain ⟨⟨y,x⟩,hg⟩: ∃x,v.m[k]? =some x:=⟨_,gA1 i⟩
    obtain ⟨z,x',R⟩: ∃z x',0<k→v.m[k-1]? =some (z,x'):=by
     by_cases I:0<k
     ·exact ⟨(v.m[k-1]'(by omega)).1,(v.m[k-1]'(by omega)).2,fun _=>gA1 (by omega)⟩
     ·exact ⟨y,x,fun h=>absurd h I⟩
    have hx:=ee hg;have J:=bV v.m (k+1);rw [sv hg] at hr;refine kW ?_;refine kP [.c (.str y::(vC (x)))] ?_ ?_
    ·((repeat' apply aI)<;>first|exact kD|(intro g;refine ⟨?_,kG⟩;(repeat' apply aI)<;>first|exact kD|skip)|skip)
     ·exact aV hg
    refine kW ?_;refine kP [.v (.bool (qJ y))] ?_ ?_
    ·((repeat' apply aI)<;>first|exact kD|(intro g;refine ⟨?_,kG⟩;(repeat' apply aI)<;>first|exact kD|skip)|skip)
     ·exact Hx _ (Lc j hg).1
    refine kC (fun hb=> ?_) fun hb=> ?_
    ·refine kW ?_
     refine aR ⟨_,rfl,?_⟩;exact congrArg (AV.int _) (by rw [←hr,if_pos (by simpa using hb)])
    rw [if_neg (by simpa using hb)] at hr;refine kW ?_;refine kP [.c (.str z::(vC (x')))] ?_ ?_
    ·((repeat' apply aI)<;>first|exact kD|(intro g;refine ⟨?_,kG⟩;(repeat' apply aI)<;>first|exact kD|skip)|skip)
     ·have I:0<k:=by simpa [gd] using g
      rw [aD (by omega) (by omega)];omega
     ·have I:0<k:=by simpa [gd] using g
      rw [aD (by omega) (by omega),show ((k:Int)-1).toNat=k-1 by omega];exact aV (R I)
    have hn:=Hy (y:=y) R;refine kC (fun hb=> ?_) fun hb=> ?_
    ·refine kW ?_
     refine aR ⟨_,rfl,?_⟩;exact congrArg (AV.int _) (by rw [←hr,if_pos (hn.trans hb)])
    rw [if_neg (by rw [hn,hb];decide)] at hr;refine kW ?_;refine kP [.v (.int .i64 x.partsC)] ?_ ?_
    ·((repeat' apply aI)<;>first|exact kD|(intro g;refine ⟨?_,kG⟩;(repeat' apply aI)<;>first|exact kD|skip)|skip)
     ·exact ih x (by omega) (Lc j hg).2 (by omega)
    refine kW ?_;refine kC (fun hb=> ?_) fun hb=> ?_
    ·have p:x.partsC≠0:=by simpa using hb
     rw [if_pos p] at hr;refine kW ?_;refine aR ⟨_,rfl,?_⟩;exact congrArg (AV.int _) hr
    ·have p: ¬x.partsC≠0:=by simpa using hb
     rw [if_neg p] at hr;refine kW ?_;exact AK.lp ⟨k+1,⟨by omega,hr⟩,wO ⟨kI,kI,kI,kU,trivial⟩ ⟨kJ,trivial⟩ rfl rfl,by omega⟩
   ·have i:k=v.m.length:=by have:v.m.length≤k:=by simpa [ak] using hb
                            omega
    subst i;refine AK.exit rfl ?_;refine kW ?_;refine aR ⟨_,rfl,?_⟩;exact congrArg (AV.int _) (by rw [←hr,List.drop_length];rfl)
theorem sI (v:V) (j:v.sb) (hsz:v.size≤2000000000000):AC Tryz.prog 49 [(vA (v))] (.int .i64 v.checkC):=by
 refine kE Tryz.func49 s8 ta fun E r=> ?_
 refine kW ?_;refine kP [.v (.int .i64 v.depth)] ?_ ?_
 ·((repeat' apply aI)<;>first|exact kD|(intro g;refine ⟨?_,kG⟩;(repeat' apply aI)<;>first|exact kD|skip)|skip)
  ·exact Cv _ v (gA4 _) hsz
 refine kC (fun hb=> ?_) fun hb=> ?_
 ·have i:16<v.depth:=by have:((v.depth:Nat):Int)>16:=by simpa using hb
                        omega
  refine kW ?_;refine aR ⟨_,rfl,?_⟩;rw [V.checkC,if_pos i];rfl
 have i: ¬16<v.depth:=by have: ¬((v.depth:Nat):Int)>16:=by simpa using hb
                         omega
 refine kW ?_;refine kP [.v (.int .i64 v.size)] ?_ ?_
 ·((repeat' apply aI)<;>first|exact kD|(intro g;refine ⟨?_,kG⟩;(repeat' apply aI)<;>first|exact kD|skip)|skip)
  ·exact EH _ v (gA4 _) hsz
 refine kC (fun hb=> ?_) fun hb=> ?_
 ·have p:4096<v.size:=by have:((v.size:Nat):Int)>4096:=by simpa using hb
                         omega
  refine kW ?_;refine aR ⟨_,rfl,?_⟩;rw [V.checkC,if_neg i,if_pos p];rfl
 have p: ¬4096<v.size:=by have: ¬((v.size:Nat):Int)>4096:=by simpa using hb
                          omega
 refine kW ?_;refine kP [.v (.int .i64 v.partsC)] ?_ ?_
 ·((repeat' apply aI)<;>first|exact kD|(intro g;refine ⟨?_,kG⟩;(repeat' apply aI)<;>first|exact kD|skip)|skip)
  ·exact Cw _ v (gA4 _) j hsz
 refine kW ?_;refine aR ⟨_,rfl,?_⟩;rw [V.checkC,if_neg i,if_neg p];rfl
def wu:List (Nat×List AV×Bool)→Prop
 | []=>True
 |(s,cs,_)::L=>match Nat.ble 1000000 s with
  |true=>cs.all AV.noFrs=true∧wu L
  |false=>wu L
theorem EL {L:List (Nat×AV)} {BL:List (Nat×List AV×Bool)} (i:nM L BL=true) (j:wu BL): ∀y∈BL,∀d∈y.2.1,d.noFrs=true:=by
 intro y hy
 have r: ∀z∈BL,(match Nat.ble 1000000 z.1 with|true=>true|false=>z.2.1.all AV.noFrs)=true:=by
  unfold nM at i;rw [gA9] at i;exact List.all_eq_true.1 i.2
 have p:=r y hy;cases hb:Nat.ble 1000000 y.1 with
 |false=>rw [hb] at p;exact List.all_eq_true.1 p
 |true=>
  have C: ∀(BL:List (Nat×List AV×Bool)),wu BL→ ∀y∈BL,Nat.ble 1000000 y.1=true→y.2.1.all AV.noFrs=true:=by
   intro BL
   induction BL with
   |nil=>intro _ y hy;cases hy
   |cons z L ih=>
    intro g y hy hb;obtain ⟨s,cs,fz⟩:=z;unfold wu at g;rcases gB2 hy with rfl|hy
    ·simp only at hb
     rw [hb] at g;exact g.1
    ·split at g
     ·exact ih g.2 y hy hb
     ·exact ih g y hy hb
  exact List.all_eq_true.1 (C BL j y hy hb)
theorem wN {fr:Fr} {st:St} {L:List (Nat×AV)} {BL:List (Nat×List AV×Bool)} {row:Nat→Nat} (I:my st fr L) (J:pt st BL) (h3:st.row=row) (h4:nM L BL=true) (h5:wu BL):Weak fr st (ar L) ⟨ag BL,row⟩:=by
 intro E G a w h;subst h3
 have i: ∀id g,(if ag BL id=none then none else G.B id)=some g→G.B id=some g:=fun id g hg=>by
  split at hg
  ·cases hg
  ·exact hg
 have hx:G.less {G with B:=fun id=>if ag BL id=none then none else G.B id,φ:=fun _=>none}:=⟨rfl,rfl,i⟩
 refine ⟨{G with B:=fun id=>if ag BL id=none then none else G.B id,φ:=fun _=>none},
  { defers:=h.defers
    size:=h.size
    slots:=fun s x j=> ?_
    hold:=h.hold
    ext:=h.ext
    below:=h.below
    box:=fun id cs fz j=> ?_
    bnone:=fun id j=>by simp only at j⊢;rw [if_pos j]
    binj:=fun id id' g I J=>h.binj id id' g (i id g I) (i id' g J)
    row:=fun s r j=>⟨(h.row s r j).1,fun id hid=>(h.row s r j).2 id (i id _ hid)⟩
    rinj:=h.rinj
    rlt:=h.rlt
    phi:=fun k x U=>by cases U
    phinj:=fun k k' x x' U=>by cases U
    pnone:=fun _ _=>rfl
    small:=h.small
    keep:=fun id g I J=>h.keep id g I (i id g J)}⟩
 ·have P:=vo j
  obtain ⟨v0,hv0,p⟩:=lG I _ P;have C:=h4;unfold nM at C;rw [gA9] at C;have T:=List.all_eq_true.1 C.1 _ P;simp only at T p;refine (h.slots s v0 hv0).le h hx ?_ (fun id off g e hg=> ?_) p
  ·cases x<;>first|rfl|exact T
  ·subst e
   simp only [List.any_eq_true] at T;obtain ⟨y,hy,hyb⟩:=T;simp only;rw [if_neg (oh hy (Nat.eq_of_beq_eq_true hyb))];exact hg
 ·have P:=qD j
  obtain ⟨ds,hds,R⟩:=lH J _ P;obtain ⟨g,k1,k2,t,vs,k3,k4,k5,k6⟩:=h.box id ds fz hds;obtain ⟨q1,q2⟩:=pr h hx k4 k5 (EL h4 h5 _ P) R;refine ⟨g,?_,k2,t,vs,k3,q1,q2,k6⟩;simp only at j⊢;rw [if_neg (by rw [j];simp)];exact k1
end
end Go.Proofs.YtbgflifmanjpjaaGreatDoor
