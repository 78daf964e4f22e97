/- Part 24. -/
import Derived.Test.YtbgflifmanjpjaaGreatDoorS23
set_option linter.unusedSimpArgs false
set_option linter.unusedVariables false
namespace Go.Proofs.YtbgflifmanjpjaaGreatDoor
section
open Go.RowKit
theorem Fo (n:Nat): ∀v:V,v.size≤n→v.size≤2000000000000→AC Tryz.prog 69 [(vA (v))] (.int .i64 v.size):=by
 induction n with
 |zero=>intro v h;have:=v.size_pos;omega
 |succ n ih=>
  intro v hn hsz;have i:=v.size_eq;have r:=bk v.l;have C:=aU v.m;refine kE Tryz.func69 sG sH fun E P=> ?_
  refine kW ?_;refine aJ (fun k:Nat=>(au [(1,.ptr 1 0),(3,.int .i64 ((1+aK (v.l.take k):Nat):Int)),(4,.int .i64 k)],⟨ag [(1,(vC (v)),false)],fun _=>0⟩)) (fun k=>k≤v.l.length) (fun k=>v.l.length-k) 0 (by omega) (wO ⟨kI,kI,kI,trivial⟩ ⟨kJ,trivial⟩ rfl rfl) fun k I=> ?_
  refine kW ?_;refine kC (fun hb=> ?_) fun hb=> ?_
  ·have g:k<v.l.length:=by simpa [ay] using hb
   obtain ⟨x,hg⟩: ∃x,v.l[k]? =some x:=⟨_,gA1 g⟩
   have J:=cT hg;have j:=bR v.l (k+1);refine kW ?_;refine kP [.c (vC (x)),.v (.int .i64 x.size)] ?_ ?_
   ·((repeat' apply aI)<;>first|exact kD|(intro p;refine ⟨?_,kG⟩;(repeat' apply aI)<;>first|exact kD|skip)|skip)
    ·exact cn hg
    ·exact ih x (by omega) (by omega)
   refine kW ?_;exact AK.lp ⟨k+1,by omega,wO ⟨kI,kU,kU,trivial⟩ ⟨kJ,trivial⟩ rfl rfl,by omega⟩
  ·have g:k=v.l.length:=by have:v.l.length≤k:=by simpa [ay] using hb
                           omega
   subst g;rw [List.take_length];refine AK.exit rfl ?_;refine kW ?_;refine aJ (fun k:Nat=>(au [(1,.ptr 1 0),(3,.int .i64 ((1+aK v.l+aw (v.m.take k):Nat):Int)),(5,.int .i64 k)],⟨ag [(1,(vC (v)),false)],fun _=>0⟩)) (fun k=>k≤v.m.length) (fun k=>v.m.length-k) 0 (by omega) (wO ⟨kI,kI,kI,trivial⟩ ⟨kJ,trivial⟩ rfl rfl) fun k I=> ?_
   refine kW ?_;refine kC (fun hb=> ?_) fun hb=> ?_
   ·have g:k<v.m.length:=by simpa [aj] using hb
    obtain ⟨⟨y,x⟩,hg⟩: ∃x,v.m[k]? =some x:=⟨_,gA1 g⟩
    have J:=cU hg;have j:=bu v.m (k+1);refine kW ?_;refine kP [.c (.str y::(vC (x))),.v (.int .i64 x.size)] ?_ ?_
    ·((repeat' apply aI)<;>first|exact kD|(intro p;refine ⟨?_,kG⟩;(repeat' apply aI)<;>first|exact kD|skip)|skip)
     ·exact aQ hg
     ·exact ih x (by omega) (by omega)
    refine kW ?_;exact AK.lp ⟨k+1,by omega,wO ⟨kI,kU,kU,trivial⟩ ⟨kJ,trivial⟩ rfl rfl,by omega⟩
   ·have g:k=v.m.length:=by have:v.m.length≤k:=by simpa [aj] using hb
                            omega
    subst g;rw [List.take_length];refine AK.exit rfl ?_;refine kW ?_;refine aR ⟨_,rfl,?_⟩;rw [i];rfl
theorem Du (n:Nat): ∀v:V,v.size≤n→v.size≤2000000000000→AC Tryz.prog 68 [(vA (v))] (.int .i64 v.depth):=by
 induction n with
 |zero=>intro v h;have:=v.size_pos;omega
 |succ n ih=>
  intro v hn hsz;have P:=v.size_eq;have i:=v.depth_eq;have R:=v.depth_le_size';have T:=bk v.l;have U:=aU v.m;refine kE Tryz.func68 qg qh fun E hE=> ?_
  refine kW ?_;refine aJ (fun k:Nat=>(au [(1,.ptr 1 0),(3,.int .i64 (bB (v.l.take k):Nat)),(4,.int .i64 k)],⟨ag [(1,(vC (v)),false)],fun _=>0⟩)) (fun k=>k≤v.l.length) (fun k=>v.l.length-k) 0 (by omega) (wO ⟨kI,kI,kI,trivial⟩ ⟨kJ,trivial⟩ rfl rfl) fun k hk=> ?_
  refine kW ?_;refine kC (fun hb=> ?_) fun hb=> ?_
  ·have g:k<v.l.length:=by simpa [ay] using hb
   obtain ⟨x,hg⟩: ∃x,v.l[k]? =some x:=⟨_,gA1 g⟩
   have hx:=cT hg;have j:=bR v.l (k+1);have hd:=rv hg;have p:=lD v.l (k+1);have r:=lD v.l k;have C:=x.depth_le_size';refine kW ?_;refine kP [.c (vC (x)),.v (.int .i64 x.depth)] ?_ ?_
   ·((repeat' apply aI)<;>first|exact kD|(intro I;refine ⟨?_,kG⟩;(repeat' apply aI)<;>first|exact kD|skip)|skip)
    ·exact cn hg
    ·exact ih x (by omega) (by omega)
   refine kW ?_;refine kC (fun hb=> ?_) fun hb=> ?_
   ·have J:bB (v.l.take k)<x.depth:=by simpa using hb
    refine kW ?_;exact AK.lp ⟨k+1,by omega,wO ⟨kI,kU,kU,trivial⟩ ⟨kJ,trivial⟩ rfl rfl,by omega⟩
   ·have J:x.depth≤bB (v.l.take k):=by simpa using hb
    refine kW ?_;exact AK.lp ⟨k+1,by omega,wO ⟨kI,kU,kU,trivial⟩ ⟨kJ,trivial⟩ rfl rfl,by omega⟩
  ·have g:k=v.l.length:=by have:v.l.length≤k:=by simpa [ay] using hb
                           omega
   subst g;rw [List.take_length];refine AK.exit rfl ?_;refine kW ?_;refine aJ (fun k:Nat=>(au [(1,.ptr 1 0),(3,.int .i64 (max (bB v.l) (bJ (v.m.take k)):Nat)),(6,.int .i64 k)],⟨ag [(1,(vC (v)),false)],fun _=>0⟩)) (fun k=>k≤v.m.length) (fun k=>v.m.length-k) 0 (by omega) (wO ⟨kI,⟨_,rfl,.of_eq (by simp [bJ])⟩,kI,trivial⟩ ⟨kJ,trivial⟩ rfl rfl) fun k hk=> ?_
   refine kW ?_;refine kC (fun hb=> ?_) fun hb=> ?_
   ·have g:k<v.m.length:=by simpa [aj] using hb
    obtain ⟨⟨y,x⟩,hg⟩: ∃x,v.m[k]? =some x:=⟨_,gA1 g⟩
    have hx:=cU hg;have j:=bu v.m (k+1);have hd:=rz hg;have p:=lE v.m (k+1);have r:=lE v.m k;have C:=x.depth_le_size';refine kW ?_;refine kP [.c (.str y::(vC (x))),.v (.int .i64 x.depth)] ?_ ?_
    ·((repeat' apply aI)<;>first|exact kD|(intro I;refine ⟨?_,kG⟩;(repeat' apply aI)<;>first|exact kD|skip)|skip)
     ·exact aQ hg
     ·exact ih x (by omega) (by omega)
    refine kW ?_;refine kC (fun hb=> ?_) fun hb=> ?_
    ·have J:max (bB v.l) (bJ (v.m.take k))<x.depth:=by simpa using hb
     refine kW ?_;exact AK.lp ⟨k+1,by omega,wO ⟨kI,kU,kU,trivial⟩ ⟨kJ,trivial⟩ rfl rfl,by omega⟩
    ·have J:x.depth≤max (bB v.l) (bJ (v.m.take k)):=by simpa using hb
     refine kW ?_;exact AK.lp ⟨k+1,by omega,wO ⟨kI,kU,kU,trivial⟩ ⟨kJ,trivial⟩ rfl rfl,by omega⟩
   ·have g:k=v.m.length:=by have:v.m.length≤k:=by simpa [aj] using hb
                            omega
    subst g;rw [List.take_length];refine AK.exit rfl ?_;refine kW ?_;refine aR ⟨_,rfl,?_⟩;rw [aG (by omega) (by omega),i];rfl
theorem Hr (s:ByteArray) (p:s.size≤140737488355328):AC Tryz.prog 119 [.str s] (.bool (pV s)):=by
 refine kE Tryz.func119 uP uQ fun E r=> ?_
 refine kW ?_;refine aJ (fun k:Nat=>(au [(0,.str s),(3,.int .i64 k)],⟨ag [],fun _=>0⟩)) (fun k=>k≤s.size∧oK okK s k) (fun k=>s.size-k) 0 ⟨by omega,gi _ _⟩ (wO ⟨kI,kI,trivial⟩ trivial rfl rfl) fun k ⟨C,i⟩=> ?_
 refine kW ?_;refine kC (fun hb=> ?_) fun hb=> ?_
 ·have g:k<s.size:=by simpa using hb
  refine kW ?_;refine kQ [] ?_;rw [show s.data.getD (k:Int).toNat 0=s[k] from jM g];refine kC (fun hb=> ?_) fun hb=> ?_
  ·refine kW ?_
   refine aR ⟨_,rfl,?_⟩
   have j:okK s[k]=false:=by
    simp only [Bool.or_eq_true,gB0] at hb;simp only [okK,Bool.and_eq_false_iff,decide_eq_false_iff_not];omega
   rw [pV,gk g j];rfl
  ·have ht:okK s[k]=true:=by
    simp only [Bool.or_eq_false_iff,decide_eq_false_iff_not] at hb;simp only [okK,gA9,gB0];omega
   refine kW ?_;exact AK.lp ⟨k+1,⟨by omega,gj i g ht⟩,wO ⟨kI,kU,trivial⟩ trivial rfl rfl,by omega⟩
 ·have g:k=s.size:=by have:s.size≤k:=by simpa using hb
                      omega
  subst g;refine AK.exit rfl ?_;refine kW ?_;refine kQ [] ?_;refine kW ?_;refine aR ⟨_,rfl,?_⟩;show AV.bool _=AV.bool _;refine congrArg AV.bool ?_;rw [pV,i7 i,Bool.eq_iff_iff];simp
  try omega
end
section
open Go.RowKit
theorem Ew {v:V}:lF v.kind v.b v.n v.s v.l.length v.m.length=(decide (v.kind<0)||decide (v.kind>5)|| !decide (v.kind=1)&&v.b|| !decide (v.kind=2)&& !decide (v.n=0)|| !decide (v.kind=3)&& !decide (v.s={data:= #[]})||
  !decide (v.kind=4)&&decide (((aF v.l).length:Int)>0)|| !decide (v.kind=5)&&decide (((ak v.m).length:Int)>0)):=by
 rw [ay,aj];unfold lF mf;rw [Bool.eq_iff_iff];simp
theorem rJ {v:V} (h:lF v.kind v.b v.n v.s v.l.length v.m.length=true):v.partsC=8:=by rw [V.partsC_eq,if_pos h]
theorem rK {v:V} (h:lF v.kind v.b v.n v.s v.l.length v.m.length=false) (ht:dt v.s=false):v.partsC=10:=by rw [V.partsC_eq,if_neg (by simp [h]),if_pos ht]
theorem rL {v:V} (h:lF v.kind v.b v.n v.s v.l.length v.m.length=false) (ht:dt v.s=true) (hl:cx v.l≠0):v.partsC=cx v.l:=by rw [V.partsC_eq,if_neg (by simp [h]),if_neg (by simp [ht]),if_pos hl]
theorem vf {v:V} (h:lF v.kind v.b v.n v.s v.l.length v.m.length=false) (ht:dt v.s=true) (hl:cx v.l=0):v.partsC=gn none v.m:=by rw [V.partsC_eq,if_neg (by simp [h]),if_neg (by simp [ht]),if_neg (by simp [hl])]
theorem Fp {m:List (ByteArray×V)} {k:Nat} {y z:ByteArray} {x' :V} (g:0<k→m[k-1]? =some (z,x')):jH (kw m k) y=(decide ((k:Int)>0)&& !Op.bytesLess z.toList y.toList):=by
 cases k with
 |zero=>simp [kw,jH]
 |succ k=>
  have:=g (by omega);simp only [Nat.add_sub_cancel] at this;have e:decide (((k+1:Nat):Int)>0)=true:=decide_eq_true (by omega);rw [kw,this,e];simp [jH]
set_option maxRecDepth 4000 in
theorem Dv (n:Nat): ∀v:V,v.size≤n→v.sb→v.size≤2000000000000→AC Tryz.prog 70 [(vA (v))] (.int .i64 v.partsC):=by
 induction n with
 |zero=>intro v h;have:=v.size_pos;omega
 |succ n ih=>
  intro v hn j hsz;have T:=v.size_eq;have U:=bk v.l;have hlm:=aU v.m;refine kE Tryz.func70 qi qj fun E hE=> ?_
  refine kW ?_;refine kQ [] ?_;refine kC (fun hb=> ?_) fun hb=> ?_
  ·refine kW ?_
   refine aR ⟨_,rfl,?_⟩;exact congrArg (AV.int _) (rJ (Ew.trans hb)).symm
  have r:=Ew.trans hb;refine kW ?_;refine kP [.v (.bool (dt v.s))] ?_ ?_
  ·((repeat' apply aI)<;>first|exact kD|(intro i;refine ⟨?_,kG⟩;(repeat' apply aI)<;>first|exact kD|skip)|skip)
   ·exact E8 _ (I7 j)
  refine kC (fun hb=> ?_) fun hb=> ?_
  ·refine kW ?_
   refine aR ⟨_,rfl,?_⟩;exact congrArg (AV.int _) (rK r (by simpa using hb)).symm
  have C:dt v.s=true:=by simpa using hb
  refine kW ?_;refine aJ (fun k:Nat=>(au [(1,.ptr 1 0),(3,.int .i64 k)],⟨ag [(1,(vC (v)),false)],fun _=>0⟩)) (fun k=>k≤v.l.length∧cx (v.l.drop k)=cx v.l) (fun k=>v.l.length-k) 0 ⟨by omega,rfl⟩ (wO ⟨kI,kI,trivial⟩ ⟨kJ,trivial⟩ rfl rfl) fun k ⟨hk,hr⟩=> ?_
  refine kW ?_;refine kC (fun hb=> ?_) fun hb=> ?_
  ·have g:k<v.l.length:=by simpa [ay] using hb
   obtain ⟨x,hg⟩: ∃x,v.l[k]? =some x:=⟨_,gA1 g⟩
   have hx:=cT hg;have J:=bR v.l (k+1);rw [rA hg] at hr;refine kW ?_;refine kP [.c (vC (x)),.v (.int .i64 x.partsC)] ?_ ?_
   ·((repeat' apply aI)<;>first|exact kD|(intro i;refine ⟨?_,kG⟩;(repeat' apply aI)<;>first|exact kD|skip)|skip)
    ·exact cn hg
    ·exact ih x (by omega) (I6 j hg) (by omega)
   refine kW ?_;refine kC (fun hb=> ?_) fun hb=> ?_
   ·have p:x.partsC≠0:=by simpa using hb
    rw [if_pos p] at hr;refine kW ?_;refine aR ⟨_,rfl,?_⟩;exact congrArg (AV.int _) (by rw [rL r C (by rw [←hr];exact p)];exact hr)
   ·have p: ¬x.partsC≠0:=by simpa using hb
    rw [if_neg p] at hr;refine kW ?_;exact AK.lp ⟨k+1,⟨by omega,hr⟩,wO ⟨kI,kU,trivial⟩ ⟨kJ,trivial⟩ rfl rfl,by omega⟩
  ·have g:k=v.l.length:=by have:v.l.length≤k:=by simpa [ay] using hb
                           omega
   subst g;have P:cx v.l=0:=by rw [←hr,List.drop_length];rfl
   clear hr;refine AK.exit rfl ?_;refine kW ?_;refine aJ (fun k:Nat=>(au [(1,.ptr 1 0),(5,.int .i64 k)],⟨ag [(1,(vC (v)),false)],fun _=>0⟩)) (fun k=>k≤v.m.length∧gn (kw v.m k) (v.m.drop k)=v.partsC) (fun k=>v.m.length-k) 0 ⟨by omega,(vf r C P).symm⟩ (wO ⟨kI,kI,trivial⟩ ⟨kJ,trivial⟩ rfl rfl) fun k ⟨hk,hr⟩=> ?_
   refine kW ?_;refine kC (fun hb=> ?_) fun hb=> ?_
   ·have g:k<v.m.length:=by simpa [aj] using hb
    obtain ⟨⟨y,x⟩,hg⟩: ∃x,v.m[k]? =some x:=⟨_,gA1 g⟩
    obtain ⟨z,x',R⟩: ∃z x',0<k→v.m[k-1]? =some (z,x'):=by
     by_cases I:0<k
     ·exact ⟨(v.m[k-1]'(by omega)).1,(v.m[k-1]'(by omega)).2,fun _=>gA1 (by omega)⟩
     ·exact ⟨y,x,fun h=>absurd h I⟩
    have hx:=cU hg;have J:=bu v.m (k+1);rw [rB hg] at hr;refine kW ?_;refine kP [.c (.str y::(vC (x))),.v (.bool (pV y))] ?_ ?_
    ·((repeat' apply aI)<;>first|exact kD|(intro i;refine ⟨?_,kG⟩;(repeat' apply aI)<;>first|exact kD|skip)|skip)
     ·exact aQ hg
     ·exact Hr _ (CT j hg).1
    refine kC (fun hb=> ?_) fun hb=> ?_
    ·refine kW ?_
     refine aR ⟨_,rfl,?_⟩;exact congrArg (AV.int _) (by rw [←hr,if_pos (by simpa using hb)])
    rw [if_neg (by simpa using hb)] at hr;refine kW ?_;refine kP [.c (.str y::(vC (x))),.c (.str z::(vC (x')))] ?_ ?_
    ·((repeat' apply aI)<;>first|exact kD|(intro i;refine ⟨?_,kG⟩;(repeat' apply aI)<;>first|exact kD|skip)|skip)
     ·exact aQ hg
     ·have I:0<k:=by simpa [gd] using i
      rw [aG (by omega) (by omega)];omega
     ·have I:0<k:=by simpa [gd] using i
      rw [aG (by omega) (by omega),show ((k:Int)-1).toNat=k-1 by omega];exact aQ (R I)
    have hn:=Fp (y:=y) R;refine kC (fun hb=> ?_) fun hb=> ?_
    ·refine kW ?_
     refine aR ⟨_,rfl,?_⟩;exact congrArg (AV.int _) (by rw [←hr,if_pos (hn.trans hb)])
    rw [if_neg (by rw [hn,hb];decide)] at hr;refine kW ?_;refine kP [.c (.str y::(vC (x))),.v (.int .i64 x.partsC)] ?_ ?_
    ·((repeat' apply aI)<;>first|exact kD|(intro i;refine ⟨?_,kG⟩;(repeat' apply aI)<;>first|exact kD|skip)|skip)
     ·exact aQ hg
     ·exact ih x (by omega) (CT j hg).2 (by omega)
    refine kW ?_;refine kC (fun hb=> ?_) fun hb=> ?_
    ·have p:x.partsC≠0:=by simpa using hb
     rw [if_pos p] at hr;refine kW ?_;refine aR ⟨_,rfl,?_⟩;exact congrArg (AV.int _) hr
    ·have p: ¬x.partsC≠0:=by simpa using hb
     rw [if_neg p] at hr;refine kW ?_;exact AK.lp ⟨k+1,⟨by omega,hr⟩,wO ⟨kI,kU,trivial⟩ ⟨kJ,trivial⟩ rfl rfl,by omega⟩
   ·have g:k=v.m.length:=by have:v.m.length≤k:=by simpa [aj] using hb
                            omega
    subst g;refine AK.exit rfl ?_;refine kW ?_;refine aR ⟨_,rfl,?_⟩;exact congrArg (AV.int _) (by rw [←hr,List.drop_length];rfl)
theorem Dw (v:V) (j:v.sb) (hsz:v.size≤2000000000000):AC Tryz.prog 34 [(vA (v))] (.int .i64 v.checkC):=by
 refine kE Tryz.func34 qk ql fun E r=> ?_
 refine kW ?_;refine kP [.v (.int .i64 v.depth)] ?_ ?_
 ·((repeat' apply aI)<;>first|exact kD|(intro g;refine ⟨?_,kG⟩;(repeat' apply aI)<;>first|exact kD|skip)|skip)
  ·exact Du _ v (gA4 _) hsz
 refine kC (fun hb=> ?_) fun hb=> ?_
 ·have i:16<v.depth:=by have:(16:Int)<v.depth:=by simpa using hb
                        omega
  refine kW ?_;refine aR ⟨_,rfl,?_⟩;exact congrArg (AV.int _) (by rw [V.checkC,if_pos i])
 have i: ¬16<v.depth:=by have:(v.depth:Int)≤16:=by simpa using hb
                         omega
 refine kW ?_;refine kP [.v (.int .i64 v.size)] ?_ ?_
 ·((repeat' apply aI)<;>first|exact kD|(intro g;refine ⟨?_,kG⟩;(repeat' apply aI)<;>first|exact kD|skip)|skip)
  ·exact Fo _ v (gA4 _) hsz
 refine kC (fun hb=> ?_) fun hb=> ?_
 ·have p:4096<v.size:=by have:(4096:Int)<v.size:=by simpa using hb
                         omega
  refine kW ?_;refine aR ⟨_,rfl,?_⟩;exact congrArg (AV.int _) (by rw [V.checkC,if_neg i,if_pos p])
 have p: ¬4096<v.size:=by have:(v.size:Int)≤4096:=by simpa using hb
                          omega
 refine kW ?_;refine kP [.v (.int .i64 v.partsC)] ?_ ?_
 ·((repeat' apply aI)<;>first|exact kD|(intro g;refine ⟨?_,kG⟩;(repeat' apply aI)<;>first|exact kD|skip)|skip)
  ·exact Dv _ v (gA4 _) j hsz
 refine kW ?_;refine aR ⟨_,rfl,?_⟩;exact congrArg (AV.int _) (by rw [V.checkC,if_neg i,if_neg p])
theorem rM (s:ByteArray) (c:UInt8):AC Tryz.prog 175 [.str s,.str ⟨#[c]⟩] (.bool (decide (c∈s.data.toList))):=by
 refine ⟨by kernel_rfl,fun σ w vs p hr hg=> ?_⟩;obtain ⟨v1,v2,rfl,g,j⟩:=oZ hr;have g:Rel1 σ v1 (.str s):=g;have j:Rel1 σ v2 (.str ⟨#[c]⟩):=j;cases g;cases j;refine (Tryz.strings_Contains_one s c w).mono ?_;rintro e w' ⟨rfl,rfl⟩
 have e:decide (0≤Lib.indexByte s.data.toList c)=decide (c∈s.data.toList):=by
  rcases uO s.data.toList c with ⟨g,j⟩|⟨i,g,j,r,C⟩
  ·rw [g,decide_eq_false j];rfl
  ·rw [g,decide_eq_true (show 0≤(i:Int) by omega),decide_eq_true (gA2 r)]
 rw [e];exact ⟨σ,_,rfl,Ext.refl _ _,p,Below.refl _ _,.bool _⟩
theorem KZ (s:ByteArray):pV s=((decide (1≤s.size)&&decide (s.size≤256))&&dt s&& !decide (10∈s.data.toList)&& !decide (9∈s.data.toList)):=by
 rw [Bool.eq_iff_iff];simp only [pV,dt,wg,gA9,Bool.not_eq_true',gB0,decide_eq_false_iff_not,List.all_eq_true];constructor
 ·rintro ⟨g,j,p⟩
  refine ⟨⟨⟨⟨j,p⟩,fun x i=> ?_,by omega⟩,fun r=> ?_⟩,fun r=> ?_⟩
  ·have:=g x i
   simp only [okK,gA9,gB0] at this;simp [okT,this]
  ·have:=g _ r
   exact absurd this (by decide)
  ·have:=g _ r
   exact absurd this (by decide)
 ·rintro ⟨⟨⟨⟨j,p⟩,g,_⟩,C⟩,I⟩
  refine ⟨fun x i=> ?_,j,p⟩;have:=g x i;simp only [okT,Bool.or_eq_true,gA9,gB0,beq_iff_eq] at this;simp only [okK,gA9,gB0];rcases this with (h|h)|h
  ·exact h
  ·exact absurd (show (9:UInt8)∈s.data.toList by rw [←show x=9 from UInt8.toNat_inj.1 h];exact i) I
  ·exact absurd (show (10:UInt8)∈s.data.toList by rw [←show x=10 from UInt8.toNat_inj.1 h];exact i) C
theorem Fq (s:ByteArray) (r:s.size≤140737488355328):AC Tryz.prog 152 [.str s] (.bool (pV s)):=by
 have C:=ve s r;have I:=rM s 10;have J:=rM s 9;refine kE Tryz.func152 wo wq fun E P=> ?_
 refine kW ?_;refine kQ [.v (.bool (dt s)),.v (.bool (decide (10∈s.data.toList))),.v (.bool (decide (9∈s.data.toList)))] ?_;refine kW ?_;refine aR ⟨_,rfl,?_⟩;refine congrArg AV.bool ?_;rw [KZ];have j:=sz0 s;by_cases p:s.size=0
 ·have:=j.2 p
  subst this;rfl
 ·have hn: ¬s=⟨#[]⟩:=fun e=>p (j.1 e)
  have i:1≤s.size:=by omega
  have g:decide ((s.size:Int)≤256)=decide (s.size≤256):=by rw [Bool.eq_iff_iff];simp;omega
  rw [decide_eq_false hn,decide_eq_true i,g];rfl
end
section
open Go.RowKit
theorem Fs {m:List (ByteArray×V)} {k:Nat} {y z:ByteArray} {x' :V} (g:0<k→m[k-1]? =some (z,x')):jH (kw m k) y=(decide ((k:Int)>0)&& !Op.bytesLess z.toList y.toList):=by
 cases k with
 |zero=>simp [kw,jH]
 |succ k=>
  have:=g (by omega);simp only [Nat.add_sub_cancel] at this;have e:decide (((k+1:Nat):Int)>0)=true:=decide_eq_true (by omega);rw [kw,this,e];simp [jH]
set_option maxRecDepth 4000 in
theorem Bp (n:Nat): ∀v:V,v.size≤n→v.sb→v.size≤2000000000000→AC Tryz.prog 97 [(vA (v))] (.int .i64 v.partsC):=by
 induction n with
 |zero=>intro v h;have:=v.size_pos;omega
 |succ n ih=>
  intro v hn j hsz;have T:=v.size_eq;have U:=bk v.l;have hlm:=aU v.m;refine kE Tryz.func97 sk sl fun E hE=> ?_
  refine kW ?_;refine kP [.v (.bool (!lF v.kind v.b v.n v.s v.l.length v.m.length))] ?_ ?_
  ·((repeat' apply aI)<;>first|exact kD|(intro g;refine ⟨?_,kG⟩;(repeat' apply aI)<;>first|exact kD|skip)|skip)
   ·exact Ji v
  refine kC (fun hb=> ?_) fun hb=> ?_
  ·refine kW ?_
   refine aR ⟨_,rfl,?_⟩;exact congrArg (AV.int _) (rJ (by simpa using hb)).symm
  have r:lF v.kind v.b v.n v.s v.l.length v.m.length=false:=by simpa using hb
  refine kW ?_;refine kP [.v (.bool (dt v.s))] ?_ ?_
  ·((repeat' apply aI)<;>first|exact kD|(intro g;refine ⟨?_,kG⟩;(repeat' apply aI)<;>first|exact kD|skip)|skip)
   ·exact ve _ (I7 j)
  refine kC (fun hb=> ?_) fun hb=> ?_
  ·refine kW ?_
   refine aR ⟨_,rfl,?_⟩;exact congrArg (AV.int _) (rK r (by simpa using hb)).symm
  have C:dt v.s=true:=by simpa using hb
  refine kW ?_;refine aJ (fun k:Nat=>(au [(1,.ptr 1 0),(19,.lst .any 6 (aF v.l)),(20,.int .i64 (aF v.l).length),(21,.int .i64 k)],⟨ag [(1,(vC (v)),false)],fun _=>0⟩)) (fun k=>k≤v.l.length∧cx (v.l.drop k)=cx v.l) (fun k=>v.l.length-k) 0 ⟨by omega,rfl⟩ (wO ⟨kI,kI,kI,kI,trivial⟩ ⟨kJ,trivial⟩ rfl rfl) fun k ⟨hk,hr⟩=> ?_
  refine kW ?_;refine kC (fun hb=> ?_) fun hb=> ?_
  ·have i:k<v.l.length:=by simpa [ay] using hb
   obtain ⟨x,hg⟩: ∃x,v.l[k]? =some x:=⟨_,gA1 i⟩
   have hx:=cT hg;have J:=bR v.l (k+1);rw [rA hg] at hr;refine kW ?_;refine kP [.c (vC (x))] ?_ ?_
   ·((repeat' apply aI)<;>first|exact kD|(intro g;refine ⟨?_,kG⟩;(repeat' apply aI)<;>first|exact kD|skip)|skip)
    ·exact cn hg
   refine kW ?_;refine kP [.v (.int .i64 x.partsC)] ?_ ?_
   ·((repeat' apply aI)<;>first|exact kD|(intro g;refine ⟨?_,kG⟩;(repeat' apply aI)<;>first|exact kD|skip)|skip)
    ·exact ih x (by omega) (I6 j hg) (by omega)
   refine kW ?_;refine kC (fun hb=> ?_) fun hb=> ?_
   ·have p:x.partsC≠0:=by simpa using hb
    rw [if_pos p] at hr;refine kW ?_;refine aR ⟨_,rfl,?_⟩;exact congrArg (AV.int _) (by rw [rL r C (by rw [←hr];exact p)];exact hr)
   ·have p: ¬x.partsC≠0:=by simpa using hb
    rw [if_neg p] at hr;refine kW ?_;exact AK.lp ⟨k+1,⟨by omega,hr⟩,wO ⟨kI,kI,kI,kU,trivial⟩ ⟨kJ,trivial⟩ rfl rfl,by omega⟩
  ·have i:k=v.l.length:=by have:v.l.length≤k:=by simpa [ay] using hb
                           omega
   subst i;have P:cx v.l=0:=by rw [←hr,List.drop_length];rfl
   clear hr;refine AK.exit rfl ?_;refine kW ?_;refine aJ (fun k:Nat=>(au [(1,.ptr 1 0),(32,.lst .any 7 (ak v.m)),(33,.int .i64 (ak v.m).length),(34,.int .i64 k)],⟨ag [(1,(vC (v)),false)],fun _=>0⟩)) (fun k=>k≤v.m.length∧gn (kw v.m k) (v.m.drop k)=v.partsC) (fun k=>v.m.length-k) 0 ⟨by omega,(vf r C P).symm⟩ (wO ⟨kI,kI,kI,kI,trivial⟩ ⟨kJ,trivial⟩ rfl rfl) fun k ⟨hk,hr⟩=> ?_
   refine kW ?_;refine kC (fun hb=> ?_) fun hb=> ?_
   ·have i:k<v.m.length:=by simpa [aj] using hb
    obtain ⟨⟨y,x⟩,hg⟩: ∃x,v.m[k]? =some x:=⟨_,gA1 i⟩
    obtain ⟨z,x',R⟩: ∃z x',0<k→v.m[k-1]? =some (z,x'):=by
     by_cases I:0<k
     ·exact ⟨(v.m[k-1]'(by omega)).1,(v.m[k-1]'(by omega)).2,fun _=>gA1 (by omega)⟩
     ·exact ⟨y,x,fun h=>absurd h I⟩
    have hx:=cU hg;have J:=bu v.m (k+1);rw [rB hg] at hr;refine kW ?_;refine kP [.c (.str y::(vC (x)))] ?_ ?_
    ·((repeat' apply aI)<;>first|exact kD|(intro g;refine ⟨?_,kG⟩;(repeat' apply aI)<;>first|exact kD|skip)|skip)
     ·exact aQ hg
    refine kW ?_;refine kP [.v (.bool (pV y))] ?_ ?_
    ·((repeat' apply aI)<;>first|exact kD|(intro g;refine ⟨?_,kG⟩;(repeat' apply aI)<;>first|exact kD|skip)|skip)
     ·exact Fq _ (CT j hg).1
    refine kC (fun hb=> ?_) fun hb=> ?_
    ·refine kW ?_
     refine aR ⟨_,rfl,?_⟩;exact congrArg (AV.int _) (by rw [←hr,if_pos (by simpa using hb)])
    rw [if_neg (by simpa using hb)] at hr;refine kW ?_;refine kP [.c (.str z::(vC (x')))] ?_ ?_
    ·((repeat' apply aI)<;>first|exact kD|(intro g;refine ⟨?_,kG⟩;(repeat' apply aI)<;>first|exact kD|skip)|skip)
     ·have I:0<k:=by simpa [gd] using g
      rw [aG (by omega) (by omega)];omega
     ·have I:0<k:=by simpa [gd] using g
      rw [aG (by omega) (by omega),show ((k:Int)-1).toNat=k-1 by omega];exact aQ (R I)
    have hn:=Fs (y:=y) R;refine kC (fun hb=> ?_) fun hb=> ?_
    ·refine kW ?_
     refine aR ⟨_,rfl,?_⟩;exact congrArg (AV.int _) (by rw [←hr,if_pos (hn.trans hb)])
    rw [if_neg (by rw [hn,hb];decide)] at hr;refine kW ?_;refine kP [.v (.int .i64 x.partsC)] ?_ ?_
    ·((repeat' apply aI)<;>first|exact kD|(intro g;refine ⟨?_,kG⟩;(repeat' apply aI)<;>first|exact kD|skip)|skip)
     ·exact ih x (by omega) (CT j hg).2 (by omega)
    refine kW ?_;refine kC (fun hb=> ?_) fun hb=> ?_
    ·have p:x.partsC≠0:=by simpa using hb
     rw [if_pos p] at hr;refine kW ?_;refine aR ⟨_,rfl,?_⟩;exact congrArg (AV.int _) hr
    ·have p: ¬x.partsC≠0:=by simpa using hb
     rw [if_neg p] at hr;refine kW ?_;exact AK.lp ⟨k+1,⟨by omega,hr⟩,wO ⟨kI,kI,kI,kU,trivial⟩ ⟨kJ,trivial⟩ rfl rfl,by omega⟩
   ·have i:k=v.m.length:=by have:v.m.length≤k:=by simpa [aj] using hb
                            omega
    subst i;refine AK.exit rfl ?_;refine kW ?_;refine aR ⟨_,rfl,?_⟩;exact congrArg (AV.int _) (by rw [←hr,List.drop_length];rfl)
theorem rN (v:V) (j:v.sb) (hsz:v.size≤2000000000000):AC Tryz.prog 49 [(vA (v))] (.int .i64 v.checkC):=by
 refine kE Tryz.func49 sg sh fun E r=> ?_
 refine kW ?_;refine kP [.v (.int .i64 v.depth)] ?_ ?_
 ·((repeat' apply aI)<;>first|exact kD|(intro g;refine ⟨?_,kG⟩;(repeat' apply aI)<;>first|exact kD|skip)|skip)
  ·exact Bo _ v (gA4 _) hsz
 refine kC (fun hb=> ?_) fun hb=> ?_
 ·have i:16<v.depth:=by have:((v.depth:Nat):Int)>16:=by simpa using hb
                        omega
  refine kW ?_;refine aR ⟨_,rfl,?_⟩;rw [V.checkC,if_pos i];rfl
 have i: ¬16<v.depth:=by have: ¬((v.depth:Nat):Int)>16:=by simpa using hb
                         omega
 refine kW ?_;refine kP [.v (.int .i64 v.size)] ?_ ?_
 ·((repeat' apply aI)<;>first|exact kD|(intro g;refine ⟨?_,kG⟩;(repeat' apply aI)<;>first|exact kD|skip)|skip)
  ·exact Dt _ v (gA4 _) hsz
 refine kC (fun hb=> ?_) fun hb=> ?_
 ·have p:4096<v.size:=by have:((v.size:Nat):Int)>4096:=by simpa using hb
                         omega
  refine kW ?_;refine aR ⟨_,rfl,?_⟩;rw [V.checkC,if_neg i,if_pos p];rfl
 have p: ¬4096<v.size:=by have: ¬((v.size:Nat):Int)>4096:=by simpa using hb
                          omega
 refine kW ?_;refine kP [.v (.int .i64 v.partsC)] ?_ ?_
 ·((repeat' apply aI)<;>first|exact kD|(intro g;refine ⟨?_,kG⟩;(repeat' apply aI)<;>first|exact kD|skip)|skip)
  ·exact Bp _ v (gA4 _) j hsz
 refine kW ?_;refine aR ⟨_,rfl,?_⟩;rw [V.checkC,if_neg i,if_neg p];rfl
def xT:List (Nat×List AV×Bool)→Prop
 | []=>True
 |(s,cs,_)::L=>match Nat.ble 1000000 s with
  |true=>cs.all AV.noFrs=true∧xT L
  |false=>xT L
theorem Dx {L:List (Nat×AV)} {BL:List (Nat×List AV×Bool)} (i:oD L BL=true) (j:xT BL): ∀y∈BL,∀d∈y.2.1,d.noFrs=true:=by
 intro y hy
 have r: ∀z∈BL,(match Nat.ble 1000000 z.1 with|true=>true|false=>z.2.1.all AV.noFrs)=true:=by
  unfold oD at i;rw [gA9] at i;exact List.all_eq_true.1 i.2
 have p:=r y hy;cases hb:Nat.ble 1000000 y.1 with
 |false=>rw [hb] at p;exact List.all_eq_true.1 p
 |true=>
  have C: ∀(BL:List (Nat×List AV×Bool)),xT BL→ ∀y∈BL,Nat.ble 1000000 y.1=true→y.2.1.all AV.noFrs=true:=by
   intro BL
   induction BL with
   |nil=>intro _ y hy;cases hy
   |cons z L ih=>
    intro g y hy hb;obtain ⟨s,cs,fz⟩:=z;unfold xT at g;rcases gB2 hy with rfl|hy
    ·simp only at hb
     rw [hb] at g;exact g.1
    ·split at g
     ·exact ih g.2 y hy hb
     ·exact ih g y hy hb
  exact List.all_eq_true.1 (C BL j y hy hb)
theorem wN {fr:Fr} {st:St} {L:List (Nat×AV)} {BL:List (Nat×List AV×Bool)} {row:Nat→Nat} (I:oC st fr L) (J:tk st BL) (h3:st.row=row) (h4:oD L BL=true) (h5:xT BL):Weak fr st (au L) ⟨ag BL,row⟩:=by
 intro E G a w h;subst h3
 have i: ∀id g,(if ag BL id=none then none else G.B id)=some g→G.B id=some g:=fun id g hg=>by
  split at hg
  ·cases hg
  ·exact hg
 have hx:G.less {G with B:=fun id=>if ag BL id=none then none else G.B id,φ:=fun _=>none}:=⟨rfl,rfl,i⟩
 refine ⟨{G with B:=fun id=>if ag BL id=none then none else G.B id,φ:=fun _=>none},
  { defers:=h.defers
    size:=h.size
    slots:=fun s x j=> ?_
    hold:=h.hold
    ext:=h.ext
    below:=h.below
    box:=fun id cs fz j=> ?_
    bnone:=fun id j=>by simp only at j⊢;rw [if_pos j]
    binj:=fun id id' g I J=>h.binj id id' g (i id g I) (i id' g J)
    row:=fun s r j=>⟨(h.row s r j).1,fun id hid=>(h.row s r j).2 id (i id _ hid)⟩
    rinj:=h.rinj
    rlt:=h.rlt
    phi:=fun k x U=>by cases U
    phinj:=fun k k' x x' U=>by cases U
    pnone:=fun _ _=>rfl
    small:=h.small
    keep:=fun id g I J=>h.keep id g I (i id g J)}⟩
 ·have P:=ue j
  obtain ⟨v0,hv0,p⟩:=lA I _ P;have C:=h4;unfold oD at C;rw [gA9] at C;have T:=List.all_eq_true.1 C.1 _ P;simp only at T p;refine (h.slots s v0 hv0).le h hx ?_ (fun id off g e hg=> ?_) p
  ·cases x<;>first|rfl|exact T
  ·subst e
   simp only [List.any_eq_true] at T;obtain ⟨y,hy,hyb⟩:=T;simp only;rw [if_neg (nE hy (Nat.eq_of_beq_eq_true hyb))];exact hg
 ·have P:=pP j
  obtain ⟨ds,hds,R⟩:=lB J _ P;obtain ⟨g,k1,k2,t,vs,k3,k4,k5,k6⟩:=h.box id ds fz hds;obtain ⟨q1,q2⟩:=oB h hx k4 k5 (Dx h4 h5 _ P) R;refine ⟨g,?_,k2,t,vs,k3,q1,q2,k6⟩;simp only at j⊢;rw [if_neg (by rw [j];simp)];exact k1
end
end Go.Proofs.YtbgflifmanjpjaaGreatDoor
