/- Part 45. -/
import Derived.Test.YtbgflifmanjpjaaGreatDoorS44
set_option linter.unusedSimpArgs false
set_option linter.unusedVariables false
namespace Go.Proofs.YtbgflifmanjpjaaGreatDoor
open Go.RowKit
abbrev mnC (m:MK):List AV:= [.lst .any 3 (a6 m.l),.int .i64 (m.at_:Int),.int .i64 m.deep,.int .i64 m.bad]
abbrev mnS (m:MK):List (Nat×List AV):= [(2000000,mnC m)]
theorem pF (m:MK) (e:Int):MS Tryz.prog 59 (mnS m) [.np 2000000 0,.int .i64 e] (mnS (m.fail e)) (.tup []):=by
 obtain ⟨l,at_,i,j⟩:=m;have hlen:(((a6 l).length:Nat):Int)=(l.length:Int):=by rw [aW]
 refine MS.enter Tryz.func59 kx kz (by rfl) (by rfl) fun E r=> ?_
 show AK _ _ _ [.c dT] _ _;rw [dT];refine kW ?_;refine kC (fun hb=> ?_) fun hb=> ?_
 ·have g:j=0:=by simpa using hb
  have p:(⟨l,at_,i,j⟩:MK).fail e=⟨l,l.length,i,e⟩:=by unfold MK.fail;rw [if_pos g]
  rw [p];refine kW ?_;show RQS _ _ _ .normal _ _;exact ⟨⟨_,rfl,rfl⟩,⟨_,rfl,congrArg (fun n:Int=> [AV.lst .any 3 (a6 l),.int .i64 n,.int .i64 i,.int .i64 e]) hlen⟩,trivial⟩
 ·have g: ¬j=0:=by simpa using hb
  have p:(⟨l,at_,i,j⟩:MK).fail e=⟨l,l.length,i,j⟩:=by unfold MK.fail;rw [if_neg g]
  rw [p];refine kW ?_;show RQS _ _ _ .normal _ _;exact ⟨⟨_,rfl,rfl⟩,⟨_,rfl,congrArg (fun n:Int=> [AV.lst .any 3 (a6 l),.int .i64 n,.int .i64 i,.int .i64 j]) hlen⟩,trivial⟩
theorem pG (m:MK) (s:Bs) (hl:s.length≤1000000):MS Tryz.prog 112 (mnS m) [.np 2000000 0,.str (toB s)] (mnS (m.pipe s).2) (.agg (m.pipe s).1.row):=by
 have g:=Kl s hl;unfold MK.pipe;generalize sY s=q at*;obtain ⟨x,e⟩:=q;have j:=pF m e;obtain ⟨l,at_,p,r⟩:=m;dsimp only at g⊢;rw [EX.row_eq] at g⊢;refine MS.enter Tryz.func112 kF kH (by rfl) (by rfl) fun E C=> ?_
 show AK _ _ _ [.c dU] _ _;rw [dU];refine kW ?_;refine kQ [.v (.tup [.agg (exV x),.int .i64 e])] ?_;refine kW ?_;refine kC (fun hb=> ?_) fun hb=> ?_
 ·have i:e≠0:=by simpa using hb
  rw [if_pos i];refine kW ?_;refine kQ [.s [2000000] (mnS ((⟨l,at_,p,r⟩:MK).fail e)) (.tup [])] ?_;refine kW ?_;exact aR ⟨⟨_,rfl,rfl⟩,⟨_,rfl,rfl⟩,trivial⟩
 ·have i:e=0:=by simpa using hb
  rw [if_neg (fun h=>h i)];refine kW ?_;exact aR ⟨⟨_,rfl,rfl⟩,⟨_,rfl,rfl⟩,trivial⟩
theorem IB {s:Bs} {k:Nat} (i:k≤(nmL s).length) (g:k<s.length):(!atP mO s k||(decide ((k:Int)=0)&& !atP gI s k))= !decide (k<(nmL s).length):=by
 rw [←EL i];obtain ⟨c,j⟩: ∃c,s[k]? =some c:=⟨_,gA1 g⟩
 unfold atP;rw [j];dsimp only
 have:decide ((k:Int)=0)= !decide (0<k):=by
  rw [Bool.eq_iff_iff];simp
 rw [this];cases mO c<;>cases decide (0<k)<;>cases gI c<;>rfl
theorem JY (s:Bs) (hl:s.length≤1000000):AC Tryz.prog 211 [.str (toB s)] (.bool (If s)):=by
 have J:=fL s;have r:=EM s;refine kE Tryz.func211 sU sV fun E U=> ?_
 refine kW ?_;refine aJ (fun k:Nat=>(ax [(0,.str (toB s)),(5,.int .i64 s.length),(6,.int .i64 k)],⟨ah [],fun _=>0⟩)) (fun k=>k≤(nmL s).length) (fun k=>s.length-k) 0 (gB8 _) (wN ⟨kI,⟨_,rfl,.of_eq (congrArg (AV.int _) (congrArg Int.ofNat (ae s)))⟩,kI,trivial⟩ trivial rfl rfl trivial) fun k P=> ?_
 refine kW ?_;refine kC (fun hb=> ?_) fun hb=> ?_
 ·have i:k<s.length:=by simpa using hb
  clear hb;have g:=IB P i;obtain ⟨c,C⟩: ∃c,s[k]? =some c:=⟨_,gA1 i⟩
  have p:(toB s).data.getD (k:Int).toNat 0=c:=ei (by simpa using C);refine kW ?_;refine kP [.v (.bool (atP mO s k)),.v (.bool (atP gI s k))] ?_ ?_
  ·((repeat' apply aI)<;>first|exact kD|(intro R;refine ⟨?_,kG⟩;(repeat' apply aI)<;>first|exact kD|skip)|skip)
   all_goals first
    |(rw [ae];omega)
    |(rw [p,qZ C];exact EK c)
    |(rw [p,qZ C];exact i6 c)
  refine kC (fun hb=> ?_) fun hb=> ?_
  ·have j: ¬k<(nmL s).length:=by
    have h:(!decide (k<(nmL s).length))=true:=g.symm.trans hb;simpa using h
   clear hb g;refine kW ?_;refine aR ⟨_,rfl,?_⟩;refine congrArg AV.bool ?_;unfold If;rw [decide_eq_false (show¬nmL s=s from fun h=>by rw [h] at j;exact j i)];rfl
  ·have j:k<(nmL s).length:=by
    have h:(!decide (k<(nmL s).length))=false:=g.symm.trans hb;simpa using h
   clear hb g;refine kW ?_;exact AK.lp ⟨k+1,by omega,wN ⟨kI,kI,kU,trivial⟩ trivial rfl rfl trivial,by omega⟩
 ·have T:s.length≤k:=by
   have: ¬k<s.length:=by simpa using hb
   omega
  clear hb;refine AK.exit rfl ?_;have I:nmL s=s:=by rw [←r,List.take_of_length_le (by omega)]
  refine kW ?_;refine kQ [] ?_;refine kW ?_;refine aR ⟨_,rfl,?_⟩;refine congrArg AV.bool ?_;unfold If;rw [decide_eq_true I,bw,Bool.true_and];congr 1;rw [decide_eq_decide,ae];omega
theorem ND.row_eq (k:Nat) (t:ByteArray) (x:EX) (key n:ByteArray) (b l:List ND):(ND.mk k t x key n b l).row= [.int .i64 (k:Int),.str t]++exV x++ [.str key,.str n,.lst .any 16 (aU b),.lst .any 16 (aU l)]:=by
 show ndH k t x key n++_=_;unfold ndH;rw [EX.row_eq];rfl
theorem LI (e:Int) (k:Nat) (g:Int) (b:Bool) (d:Int):((((!decide (e=0)|| !decide ((k:Int)=0))|| !decide (g=3))|| !b)||decide (d>1))=decide (e≠0∨k≠0∨g≠3∨b=false∨1<d):=by
 rw [Bool.eq_iff_iff];cases b<;>simp<;>omega
theorem Gb {w:ByteArray} (h:(bn w).1.kind=2):(bn w).1.s.size=0:=by
 unfold bn at h⊢;by_cases hA:w=⟨#[]⟩∨w=⟨#[126]⟩∨w=lq
 ·rw [if_pos hA];rfl
 ·rw [if_neg hA] at h⊢
  by_cases g:w=fB∨w=hZ
  ·rw [if_pos g];rfl
  ·rw [if_neg g] at h⊢
   by_cases i:su w=false
   ·rw [if_pos i] at h
    exfalso
    revert h
    show (3:Int)=2→False;decide
   ·rw [if_neg i]
    cases Lib.atoiAll w.data.toList<;>rfl
theorem ij: ∀(n:Nat) (m:PM) (r:RD) (N:Nat),(match m with| .bars x=>x.v.s.size|_=>0)≤N→r.s.length≤N→(exF n m r).1.v.s.size≤N
 |0,m,r,N,_,_=>gB8 _
 |n+1,.operand,r,N,j,C=>by
  have hl:=cu r.s;rw [exF];cases I:tlw r.s with
  |nil=>exact gB8 _
  |cons c t=>
   rw [I,gA3] at hl;dsimp only;split
   ·cases P:lr (c::t) with
    |none=>exact gB8 _
    |some p=>
     obtain ⟨x,rest⟩:=p;have R:=gT P;rw [gA3] at R;show (toB x).size≤N;rw [ae];omega
   ·split
    ·unfold qT
     generalize J:bn (toB (r.skip.s.take (gJ r.skip.s)))=q;obtain ⟨v,e⟩:=q;dsimp only;split
     ·exact gB8 _
     ·rename_i T
      have:=Gb (w:=toB (r.skip.s.take (gJ r.skip.s))) (by rw [J];exact Classical.not_not.1 fun h=>T (.inr h));rw [J] at this;have this:v.s.size=0:=this;show v.s.size≤N;omega
    ·split
     ·exact gB8 _
     ·split
      ·split<;>exact gB8 _
      ·split
       ·split
        ·exact gB8 _
        ·have ih:=ij n .pipe ⟨t,IntKind.i64.wrap (r.deep+1),r.bad⟩ N (gB8 _) (by show t.length≤N;omega)
         generalize exF n .pipe ⟨t,IntKind.i64.wrap (r.deep+1),r.bad⟩=q at ih;obtain ⟨x,b,i⟩:=q;dsimp only at ih⊢;split
         ·exact gB8 _
         ·split
          ·exact ih
          ·exact gB8 _
       ·split
        ·split
         ·exact gB8 _
         ·split<;>exact gB8 _
        ·exact gB8 _
 |n+1,.command,r,N,j,C=>by
  rw [exF];have ih:=ij n .operand r N (gB8 _) C;have g:=(bD n .operand r).1;generalize exF n .operand r=q at ih g;obtain ⟨x,b,i⟩:=q;have g:x.args.length+i.s.length≤0+r.s.length:=g;cases b with
  |true=>exact ih
  |false=>
   dsimp only;split
   ·exact gB8 _
   ·exact ij n (.args _ []) _ N (gB8 _) (by show (i.s.drop _).length≤N;rw [gA6];omega)
 |n+1,.args nm out,r,N,j,C=>by
  rw [exF];have g:=(bD n .operand r).1;generalize exF n .operand r=q at g;obtain ⟨x,b,i⟩:=q;have g:x.args.length+i.s.length≤0+r.s.length:=g;cases b with
  |true=>exact ij n (.args _ _) _ N (gB8 _) (by show i.s.length≤N;omega)
  |false=>
   dsimp only;split
   ·exact gB8 _
   ·exact ij n (.args _ _) _ N (gB8 _) (by show (i.s.drop _).length≤N;rw [gA6];omega)
 |n+1,.pipe,r,N,j,C=>by
  rw [exF];have ih:=ij n .command r N (gB8 _) C;have g:=(bD n .command r).1;generalize exF n .command r=q at ih g;obtain ⟨x,b,i⟩:=q;have g:x.args.length+i.s.length≤0+r.s.length:=g;exact ij n (.bars x) i N ih (by omega)
 |n+1,.bars x,r,N,j,C=>by
  have hl:=cu r.s;rw [exF];cases I:tlw r.s with
  |nil=>exact j
  |cons c t=>
   rw [I,gA3] at hl;dsimp only;split
   ·have ih:=ij n .command (r.to t) N (gB8 _) (by show t.length≤N;omega)
    have g:=(bD n .command (r.to t)).1;generalize exF n .command (r.to t)=q at ih g;obtain ⟨y,b,i⟩:=q;have g:y.args.length+i.s.length≤0+t.length:=g;dsimp only at ih⊢;split
    ·exact gB8 _
    ·exact ij n (.bars _) i N ih (by omega)
   ·exact j
theorem EV (s:Bs):(sY s).1.v.s.size≤s.length:=by
 have h:=ij (4*s.length+4) .pipe ⟨s,0,0⟩ s.length (gB8 _) (gA4 _);unfold sY;generalize exF (4*s.length+4) .pipe ⟨s,0,0⟩=q at h;obtain ⟨x,b,r⟩:=q;dsimp only at h⊢;split
 ·exact gB8 _
 ·split
  ·exact gB8 _
  ·exact h
theorem tb (w p:Bs):decide (toB w=toB p)=decide (w=p):=decide_eq_decide.2 cL
theorem vO (s:Bs):(mP s).2.1.length≤s.length:=by
 have hl:=cu s;unfold mP JK;cases g:tlw s with
 |nil=>exact gB8 _
 |cons c t=>
  rw [g,gA3] at hl;dsimp only;split
  ·exact gB8 _
  ·rename_i h
   split at h
   ·cases h
    have:=cu (t.drop (nmL t).length);rw [gA6] at this;show (tlw (t.drop (nmL t).length)).length≤_;omega
   ·cases h
theorem vP (s:Bs):(ig s).2.1.length≤s.length:=by
 have hl:=vO s;unfold ig;generalize mP s=q at*;obtain ⟨n,r,b⟩:=q;dsimp only at hl⊢;cases b
 ·exact hl
 ·dsimp only
  split
  ·show (r.drop 2).length≤_
   rw [gA6];omega
  ·exact hl
abbrev ndZ (k:Int) (key nm:ByteArray):List AV:= [.int .i64 k,.str ⟨#[]⟩,.int .i64 0,.int .i64 0,.bool false,.int .i64 0,.str ⟨#[]⟩,.lst .nil 6 [],.lst .nil 7 [],.str ⟨#[]⟩,.lst .nil 1 [],.lst .nil 10 [],.str key,.str nm,.lst .nil 16 [],.lst .nil 16 []]
theorem JZ (m:MK) (w s:Bs) (hl:s.length≤1000000):MS Tryz.prog 159 (mnS m) [.np 2000000 0,.str (toB w),.str (toB s)] (mnS (eH m w s).2) (.agg (eH m w s).1.row):=by
 refine MS.enter Tryz.func159 kK kM (by rfl) (by rfl) fun E hE=> ?_
 show AK _ _ _ [.c dV] _ _;rw [dV];refine kW ?_;rw [show decide (toB w=⟨#[105,102]⟩)=decide (w=wIf) from tb w wIf];by_cases C:w=wIf
 ·have i:=pG m s hl
  unfold eH;rw [if_pos C,ND.row_eq,decide_eq_true C];rw [EX.row_eq] at i;generalize m.pipe s=q at i⊢;refine kCt ?_;refine kW ?_;refine kQ [.s [2000000] (mnS q.2) (.agg (exV q.1))] ?_;exact aR ⟨⟨_,rfl,rfl⟩,⟨_,rfl,rfl⟩,trivial⟩
 rw [decide_eq_false C];refine kCf ?_;refine kW ?_;rw [show decide (toB w=⟨#[119,105,116,104]⟩)=decide (w=rM) from tb w rM];by_cases I:w=rM
 ·have i:=pG m s hl
  unfold eH;rw [if_neg C,if_pos I,ND.row_eq,decide_eq_true I];rw [EX.row_eq] at i;generalize m.pipe s=q at i⊢;refine kCt ?_;refine kW ?_;refine kQ [.s [2000000] (mnS q.2) (.agg (exV q.1))] ?_;exact aR ⟨⟨_,rfl,rfl⟩,⟨_,rfl,rfl⟩,trivial⟩
 rw [decide_eq_false I];refine kCf ?_;refine kW ?_;rw [show decide (toB w=⟨#[100,101,102,105,110,101]⟩)=decide (w=sZ) from tb w sZ];by_cases h3:w=sZ
 ·have p:=Kl s hl
  have J:=EV s;unfold eH;rw [if_neg C,if_neg I,if_pos h3,decide_eq_true h3];generalize sY s=q at p J⊢;obtain ⟨x,e⟩:=q;dsimp only at p J⊢;have hnm:=JY x.v.s.data.toList (by show x.v.s.size≤_;omega);have hor:=BU e 22;have hfl:=pF m (if e=0 then 22 else e);rw [EX.row_eq] at p;rw [ND.row_eq];refine kCt ?_;refine kW ?_;refine kQ [.v (.tup [.agg (exV x),.int .i64 e])] ?_;refine kW ?_;refine kQ [.v (.bool (If x.v.s.data.toList))] ?_;rw [LI];refine kC (fun hb=> ?_) fun hb=> ?_
  ·have j:=gB3 hb
   clear hb;rw [if_pos j];refine kW ?_;refine kQ [.v (.int .i64 (if e=0 then 22 else e)),.s [2000000] (mnS (m.fail (if e=0 then 22 else e))) (.tup [])] ?_;refine kW ?_;exact aR ⟨⟨_,rfl,rfl⟩,⟨_,rfl,rfl⟩,trivial⟩
  ·have j:=gB4 hb
   clear hb;rw [if_neg j];refine kW ?_;exact aR ⟨⟨_,rfl,rfl⟩,⟨_,rfl,rfl⟩,trivial⟩
 rw [decide_eq_false h3];refine kCf ?_;refine kW ?_;have hv:=vL s hl;have P:=DI s hl
 have e:eH m w s=(.mk 4 ⟨#[]⟩ (m.pipe (ft s).2.2).1 (toB (ft s).1) (toB (ft s).2.1) [] [],(m.pipe (ft s).2.2).2):=by
  unfold eH;rw [if_neg C,if_neg I,if_neg h3]
 rw [e,ND.row_eq];clear e;unfold ft;have R:=vO s;generalize mP s=q at hv R⊢;obtain ⟨key,rest,b⟩:=q;dsimp only at hv R⊢;have hpr:=eO rest 44;rw [show bu 44 rest=([44]:Bs).isPrefixOf rest from by cases rest<;>simp [bu,List.isPrefixOf,BEq.comm]] at hpr;refine kQ [.v (.tup [.str (toB key),.str (toB rest),.bool b])] ?_;refine kW ?_;refine kQ [.v (.bool (([44]:Bs).isPrefixOf rest))] ?_
 obtain ⟨g,hg⟩: ∃g:Bs×Bs×Bs,g=(if (b&&([44]:Bs).isPrefixOf rest)=true then (match ig (rest.drop 1) with
   |(name,more,is)=>if is=true then (key,name,more) else ([],[],s))
  else (match ig s with
   |(name,more,is)=>if is=true then ([],name,more) else ([],[],s))):=⟨_,rfl⟩
 rw [←hg]
 have T:g.2.2.length≤1000000:=by
  have a1:=vP (rest.drop 1);have a2:=vP s;rw [gA6] at a1;generalize ig (rest.drop 1)=q1 at hg a1;generalize ig s=U at hg a2;obtain ⟨n1,m1,c1⟩:=q1;obtain ⟨n2,m2,c2⟩:=U;dsimp only at hg a1 a2;rw [hg];cases b&&([44]:Bs).isPrefixOf rest<;>cases c1<;>cases c2<;>first|exact hl|(show m1.length≤_;omega)|(show m2.length≤_;omega)
 have i:=pG m g.2.2 T;rw [EX.row_eq] at i;refine AK.cutK (fun _:Unit=>True) (fun _=>ax [(0,.np 2000000 0),(2,.str (toB g.2.2)),(6,.ptr 6 0),(9,.ptr 9 0)]) (fun _=>⟨ah [(6,ndZ 0 ⟨#[]⟩ ⟨#[]⟩,false),(9,ndZ 4 (toB g.1) (toB g.2.1),false),(2000000,mnC m,false)],fun _=>0⟩) ?_ fun _ _=> ?_
 ·clear i T
  refine kC (fun hb=> ?_) fun hb=> ?_
  ·have j:(b&&([44]:Bs).isPrefixOf rest)=true:=hb
   clear hb;rw [if_pos j] at hg
   have hrl:1≤rest.length:=by
    cases rest with
    |nil=>simp at j
    |cons _ _=>simp
   have r:=DI (rest.drop 1) (by rw [gA6];omega);generalize ig (rest.drop 1)=U at hg r;obtain ⟨n2,m2,c2⟩:=U;dsimp only at hg r;refine kW ?_;refine kP [.v (.tup [.str (toB n2),.str (toB m2),.bool c2])] ?_ ?_
   ·((repeat' apply aI)<;>first|exact kD|(intro hgd;refine ⟨?_,kG⟩;(repeat' apply aI)<;>first|exact kD|skip)|skip)
    all_goals first|(rw [ae];omega)|(rw [show ((1:Int)).toNat=((1:Nat):Int).toNat from rfl,ba];exact r)
   refine kW ?_;cases c2 with
   |true=>
    subst hg;refine kCt ?_;refine kW ?_;exact cE ⟨(),trivial,wN ⟨kI,kI,kI,kI,trivial⟩ ⟨kJ,kJ,kJ,trivial⟩ rfl rfl ⟨rfl,trivial⟩⟩
   |false=>
    subst hg;refine kCf ?_;refine kW ?_;exact cE ⟨(),trivial,wN ⟨kI,kI,kI,kI,trivial⟩ ⟨kJ,kJ,kJ,trivial⟩ rfl rfl ⟨rfl,trivial⟩⟩
  ·have j: ¬(b&&([44]:Bs).isPrefixOf rest)=true:=by
    intro h;rw [show (b&&([44]:Bs).isPrefixOf rest)=false from hb] at h;cases h
   clear hb;rw [if_neg j] at hg;generalize ig s=U at hg P;obtain ⟨n2,m2,c2⟩:=U;dsimp only at hg P;refine kW ?_;refine kQ [.v (.tup [.str (toB n2),.str (toB m2),.bool c2])] ?_;refine kW ?_;cases c2 with
   |true=>
    subst hg;refine kCt ?_;refine kW ?_;exact cE ⟨(),trivial,wN ⟨kI,kI,kI,kI,trivial⟩ ⟨kJ,kJ,kJ,trivial⟩ rfl rfl ⟨rfl,trivial⟩⟩
   |false=>
    subst hg;refine kCf ?_;refine kW ?_;exact cE ⟨(),trivial,wN ⟨kI,kI,kI,kI,trivial⟩ ⟨kJ,kJ,kJ,trivial⟩ rfl rfl ⟨rfl,trivial⟩⟩
 generalize m.pipe g.2.2=q at i⊢;refine kW ?_;refine kQ [.s [2000000] (mnS q.2) (.agg (exV q.1))] ?_;refine kW ?_;exact aR ⟨⟨_,rfl,rfl⟩,⟨_,rfl,rfl⟩,trivial⟩
def TK (m:MK):Prop:=m.l.length≤1000000∧m.at_≤m.l.length∧ ∀t∈m.l,t.s.length≤1000000
def QN (n:Nat):Prop:= ∀(m:MK) (out:List ND) (st re:Bs) (g:MK),TK m→3*(m.l.length-m.at_)+2≤n→ndF n (.nodes []) m=(out,st,re,g)→MS Tryz.prog 58 (mnS m) [.np 2000000 0] (mnS g) (.tup [.lst .any 16 (aU out),.str (toB st),.str (toB re)])
def QB (n:Nat):Prop:= ∀(m:MK) (w s:Bs) (nd:ND) (st re:Bs) (g:MK),TK m→s.length≤1000000→3*(m.l.length-m.at_)+3≤n→ndF n (.block w s) m=([nd],st,re,g)→MS Tryz.prog 110 (mnS m) [.np 2000000 0,.str (toB w),.str (toB s)] (mnS g) (.agg nd.row)
abbrev mdJ:Nat×List ND×MK×(Nat→Nat)→Fr×St:=fun x=>(ax [(0,.np 2000000 0),(2,.lst (.own 46 (x.2.2.2 46)) 16 (aU x.2.1))],⟨ah [(2000000,mnC x.2.2.1,false)],x.2.2.2⟩)
abbrev ndV (k:Nat) (t:ByteArray) (x:EX) (key n:ByteArray) (b l:List ND):List AV:= [.int .i64 (k:Int),.str t]++exV x++ [.str key,.str n,.lst .any 16 (aU b),.lst .any 16 (aU l)]
theorem lM (out:List ND) (k:Nat) (t:ByteArray) (x:EX) (key n:ByteArray) (b l:List ND):aU out++ [ndV k t x key n b l]=aU (out++ [.mk k t x key n b l]):=by rw [DC,ND.row_eq]
theorem J0 (n:Nat) (hB: ∀k≤n,QB k):QN (n+1):=fun U J ST RE M hTK hn g=>by
 refine MS.enter Tryz.func58 j2 j3 (by rfl) (by rfl) fun E hE=> ?_
 show AK _ _ _ [.c dz] _ _;rw [dz];have hI0:TK U∧3*(U.l.length-U.at_)+2≤n+1∧n+1≤n+1∧([]:List ND).length+(U.l.length-U.at_)≤1000000∧ndF (n+1) (.nodes []) U=(J,ST,RE,M):=⟨hTK,hn,gA4 _,by have:=hTK.1;show 0+_≤_;omega,g⟩
 refine kW ?_;refine aJ mdJ (fun x=>TK x.2.2.1∧3*(x.2.2.1.l.length-x.2.2.1.at_)+2≤x.1∧x.1≤n+1∧x.2.1.length+(x.2.2.1.l.length-x.2.2.1.at_)≤1000000∧ndF x.1 (.nodes x.2.1) x.2.2.1=(J,ST,RE,M)) (fun x=>x.2.2.1.l.length-x.2.2.1.at_) (n+1,[],U,fun _=>0) hI0 (wN ⟨kI,⟨_,rfl,.one (.own _ _ _ _)⟩,trivial⟩ ⟨kJ,trivial⟩ rfl rfl ⟨rfl,trivial⟩) fun ⟨j,out,m,w⟩ hI=> ?_
 clear hI0 g hTK hn;obtain ⟨⟨hl1,hl2,P⟩,hn1,hn2,hb0,g⟩:=hI;obtain ⟨l,at_,p,r⟩:=m;dsimp only at hl1 hl2 P hn1 hn2 hb0 g;obtain ⟨j,rfl⟩: ∃n',j=n' +1:=⟨j-1,by omega⟩
 have hB:=hB j (by omega);show AK _ _ _ _ (ax _) _;rw [ndF] at g;dsimp only at g;refine kW ?_;refine kC (fun hb=> ?_) fun hb=> ?_
 ·have hlt:at_<l.length:=by simpa [aW] using hb
  clear hb;obtain ⟨t,ht⟩: ∃t,l[at_]? =some t:=⟨_,gA1 hlt⟩
  have htl:=P t (gA2 ht);rw [ht] at g;dsimp only at g;refine kW ?_;refine kP [.c (tkT t)] ?_ ?_
  ·((repeat' apply aI)<;>first|exact kD|(intro R;refine ⟨?_,kG⟩;(repeat' apply aI)<;>first|exact kD|skip)|skip)
   all_goals first|exact Id ht|(rw [aW];omega)|skip
  have hwr:IntKind.i64.wrap ((at_:Int)+1)=((at_+1:Nat):Int):=by rw [aD (by omega) (by omega)];omega
  refine kW ?_;refine AK.weak (wN (row:=w) (L:= [(0,.np 2000000 0),(2,.lst (.own 46 (w 46)) 16 (aU out)),(5,.ptr 5 0),(40,.bool (!t.act))]) (BL:= [(5,tkT t,false),(2000000,mnC ⟨l,at_+1,p,r⟩,false)]) ⟨kI,kI,kI,kI,trivial⟩ ⟨kJ,⟨_,rfl,.refl _,by rw [hwr];exact .refl _,.refl _,.refl _,trivial⟩,trivial⟩ rfl rfl ⟨rfl,trivial⟩) ?_
  have inv: ∀(nd:ND) (i:MK),i.l=l→at_+1≤i.at_→i.at_≤l.length→ndF j (.nodes (out++ [nd])) i=(J,ST,RE,M)→(TK i∧3*(i.l.length-i.at_)+2≤j∧j≤n+1∧(out++ [nd]).length+(i.l.length-i.at_)≤1000000∧ndF j (.nodes (out++ [nd])) i=(J,ST,RE,M))∧i.l.length-i.at_<l.length-at_:=fun nd i e1 e2 e3 e4=>by
   refine ⟨⟨⟨by rw [e1];exact hl1,by rw [e1];exact e3,fun t ht=>P t (by rw [←e1];exact ht)⟩,?_,by omega,?_,e4⟩,?_⟩
   ·rw [e1];omega
   ·rw [e1,gA5,List.length_singleton];omega
   ·rw [e1];omega
  have hpa:=fun s=>(⟨l,at_+1,p,r⟩:MK).pipe_at s ⟨MK.pipe_l _ s,by show at_+1≤l.length;omega⟩
  refine kC (fun hb=> ?_) fun hb=> ?_
  ·have C:t.act=false:=by simpa using hb
   clear hb;rw [if_pos C] at g;refine kW ?_;refine kP [] ?_ ?_
   ·((repeat' apply aI)<;>first|exact kD|(intro R;refine ⟨?_,kG⟩;(repeat' apply aI)<;>first|exact kD|skip)|skip)
    all_goals simp only [fU,List.length_nil,gA3]
    all_goals omega
   refine AK.exit rfl ?_;refine kW ?_;obtain ⟨i1,i2⟩:=inv (.mk 0 (toB t.s) EX.null ⟨#[]⟩ ⟨#[]⟩ [] []) ⟨l,at_+1,p,r⟩ rfl (gA4 _) (by show at_+1≤_;omega) g;exact AK.lp ⟨(j,out++ [(.mk 0 (toB t.s) EX.null ⟨#[]⟩ ⟨#[]⟩ [] [])],⟨l,at_+1,p,r⟩,_),i1,wN ⟨kI,⟨_,rfl,.of_eq (congrArg (AV.lst _ 16) (lM out 0 (toB t.s) EX.null ⟨#[]⟩ ⟨#[]⟩ [] []))⟩,trivial⟩ ⟨kJ,trivial⟩ rfl rfl ⟨rfl,trivial⟩,i2⟩
  have C: ¬t.act=false:=by simpa using hb
  clear hb;rw [if_neg C] at g;have hwd:=ER t.s htl;refine kW ?_;refine kQ [.v (.tup [.str (toB (nmL t.s)),.str (toB (bZ t.s))])] ?_;refine kW ?_;rw [show decide (toB (nmL t.s)=⟨#[101,110,100]⟩)=decide (nmL t.s=qU) from tb _ qU];refine AK.cutK (fun _:Unit=>True) (fun _=>ax [(0,.np 2000000 0),(2,.lst (.own 46 (w 46)) 16 (aU out)),(5,.ptr 5 0),(6,.str (toB (nmL t.s))),(7,.str (toB (bZ t.s))),(53,.str (toB (nmL t.s))),(54,.bool (decide (nmL t.s=qU∨nmL t.s=iY)))]) (fun _=>⟨ah [(5,tkT t,false),(2000000,mnC ⟨l,at_+1,p,r⟩,false)],w⟩) ?_ fun _ _=> ?_
  ·refine kC (fun hb=> ?_) fun hb=> ?_
   ·have h:=gB3 hb
    refine kW ?_;exact cE ⟨(),trivial,wN ⟨kI,kI,kI,kI,kI,kI,⟨_,rfl,.of_eq (congrArg AV.bool (by rw [decide_eq_true h,decide_eq_true (Or.inl h)]))⟩,trivial⟩ ⟨kJ,kJ,trivial⟩ rfl rfl ⟨rfl,trivial⟩⟩
   ·have h:=gB4 hb
    refine kW ?_;exact cE ⟨(),trivial,wN ⟨kI,kI,kI,kI,kI,kI,⟨_,rfl,.of_eq (congrArg AV.bool ((tb _ iY).trans (decide_eq_decide.2 ⟨Or.inr,fun k=>k.resolve_left h⟩)))⟩,trivial⟩ ⟨kJ,kJ,trivial⟩ rfl rfl ⟨rfl,trivial⟩⟩
  refine kC (fun hb=> ?_) fun hb=> ?_
  ·have h:=gB3 hb
   clear hb;rw [if_pos h] at g;cases g;refine kW ?_;exact aR ⟨⟨_,rfl,rfl⟩,⟨_,rfl,rfl⟩,trivial⟩
  have h1:=gB4 hb;clear hb;rw [if_neg h1] at g;refine kW ?_;rw [show decide (toB (nmL t.s)=⟨#[105,102]⟩)=decide (nmL t.s=wIf) from tb _ wIf];refine AK.cutK (fun _:Unit=>True) (fun _=>ax [(0,.np 2000000 0),(2,.lst (.own 46 (w 46)) 16 (aU out)),(5,.ptr 5 0),(6,.str (toB (nmL t.s))),(7,.str (toB (bZ t.s))),(53,.str (toB (nmL t.s))),(60,.bool (decide (nmL t.s=wIf∨nmL t.s=rM∨nmL t.s=zt∨nmL t.s=sZ)))]) (fun _=>⟨ah [(5,tkT t,false),(2000000,mnC ⟨l,at_+1,p,r⟩,false)],w⟩) ?_ fun _ _=> ?_
  ·refine kC (fun hb=> ?_) fun hb=> ?_
   ·have h:=gB3 hb
    refine kW ?_;exact cE ⟨(),trivial,wN ⟨kI,kI,kI,kI,kI,kI,⟨_,rfl,.of_eq (congrArg AV.bool (by rw [decide_eq_true h,decide_eq_true (Or.inl h)]))⟩,trivial⟩ ⟨kJ,kJ,trivial⟩ rfl rfl ⟨rfl,trivial⟩⟩
   have h:=gB4 hb;clear hb;refine kW ?_;rw [show decide (toB (nmL t.s)=⟨#[119,105,116,104]⟩)=decide (nmL t.s=rM) from tb _ rM];refine kC (fun hb=> ?_) fun hb=> ?_
   ·have k:=gB3 hb
    refine kW ?_;exact cE ⟨(),trivial,wN ⟨kI,kI,kI,kI,kI,kI,⟨_,rfl,.of_eq (congrArg AV.bool (by rw [decide_eq_true k,decide_eq_true (Or.inr (Or.inl k))]))⟩,trivial⟩ ⟨kJ,kJ,trivial⟩ rfl rfl ⟨rfl,trivial⟩⟩
   have h2:=gB4 hb;clear hb;refine kW ?_;rw [show decide (toB (nmL t.s)=⟨#[114,97,110,103,101]⟩)=decide (nmL t.s=zt) from tb _ zt];refine kC (fun hb=> ?_) fun hb=> ?_
   ·have k:=gB3 hb
    refine kW ?_;exact cE ⟨(),trivial,wN ⟨kI,kI,kI,kI,kI,kI,⟨_,rfl,.of_eq (congrArg AV.bool (by rw [decide_eq_true k,decide_eq_true (Or.inr (Or.inr (Or.inl k)))]))⟩,trivial⟩ ⟨kJ,kJ,trivial⟩ rfl rfl ⟨rfl,trivial⟩⟩
   have h3:=gB4 hb;clear hb;refine kW ?_;exact cE ⟨(),trivial,wN ⟨kI,kI,kI,kI,kI,kI,⟨_,rfl,.of_eq (congrArg AV.bool ((tb _ sZ).trans (decide_eq_decide.2 ⟨fun k=>Or.inr (Or.inr (Or.inr k)),fun k=>((k.resolve_left h).resolve_left h2).resolve_left h3⟩)))⟩,trivial⟩ ⟨kJ,kJ,trivial⟩ rfl rfl ⟨rfl,trivial⟩⟩
  refine kC (fun hb=> ?_) fun hb=> ?_
  ·have h:=gB3 hb
   clear hb;rw [if_pos h] at g;rcases hbk:ndF j (.block (nmL t.s) (bZ t.s)) ⟨l,at_+1,p,r⟩ with ⟨bl,st2,re2,i⟩
   rw [hbk] at g;have T:=eu j (.block (nmL t.s) (bZ t.s)) ⟨l,at_+1,p,r⟩ (by show at_+1≤l.length;omega);rw [hbk] at T;obtain ⟨f1,f2,f3,_,f5⟩:=T;have f5:=f5 _ _ rfl (by omega);dsimp only at f1 f2 f3 f5 g;obtain ⟨nd,rfl⟩:=List.length_eq_one_iff.1 f5;have hBk:=hB ⟨l,at_+1,p,r⟩ (nmL t.s) (bZ t.s) nd st2 re2 i ⟨hl1,by show at_+1≤l.length;omega,P⟩ (by unfold bZ;rw [gA6];omega) (by show 3*(l.length-(at_+1))+3≤j;omega) hbk;obtain ⟨k,tt,x,key,nm,bb,ll⟩:=nd;rw [ND.row_eq] at hBk;refine kW ?_;refine kP [.s [2000000] (mnS i) (.agg (ndV k tt x key nm bb ll))] ?_ ?_
   ·((repeat' apply aI)<;>first|exact kD|(intro R;refine ⟨?_,kG⟩;(repeat' apply aI)<;>first|exact kD|skip)|skip)
    all_goals simp only [fU,List.length_nil,gA3]
    all_goals omega
   refine AK.exit rfl ?_;refine kW ?_;obtain ⟨i1,i2⟩:=inv (.mk k tt x key nm bb ll) i f1 f2 f3 g;exact AK.lp ⟨(j,out++ [(.mk k tt x key nm bb ll)],i,_),i1,wN ⟨kI,⟨_,rfl,.of_eq (congrArg (AV.lst _ 16) (lM out k tt x key nm bb ll))⟩,trivial⟩ ⟨kJ,trivial⟩ rfl rfl ⟨rfl,trivial⟩,i2⟩
  have h2:=gB4 hb;clear hb;rw [if_neg h2] at g;have hst:=DI t.s htl;have hsl:=vP t.s;have hpt:=pG ⟨l,at_+1,p,r⟩ t.s htl;rw [EX.row_eq] at hpt;generalize ig t.s=q2 at g hst hsl;obtain ⟨nm,rest,c⟩:=q2;dsimp only at hst hsl;have hpr:=pG ⟨l,at_+1,p,r⟩ rest (by omega);rw [EX.row_eq] at hpr;refine kW ?_;refine kQ [.v (.tup [.str (toB nm),.str (toB rest),.bool c])] ?_;refine kW ?_;cases c with
  |true=>
   dsimp only at g;have I:=hpa rest;generalize (⟨l,at_+1,p,r⟩:MK).pipe rest=q at g I hpr;obtain ⟨x,i⟩:=q;dsimp only at g I hpr;refine kCt ?_;refine kW ?_;refine kP [.s [2000000] (mnS i) (.agg (exV x))] ?_ ?_
   ·((repeat' apply aI)<;>first|exact kD|(intro R;refine ⟨?_,kG⟩;(repeat' apply aI)<;>first|exact kD|skip)|skip)
    all_goals simp only [fU,List.length_nil,gA3]
    all_goals omega
   refine AK.exit rfl ?_;refine kW ?_;obtain ⟨i1,i2⟩:=inv (.mk 5 ⟨#[]⟩ x ⟨#[]⟩ (toB nm) [] []) i I.1 I.2.1 I.2.2 g;exact AK.lp ⟨(j,out++ [(.mk 5 ⟨#[]⟩ x ⟨#[]⟩ (toB nm) [] [])],i,_),i1,wN ⟨kI,⟨_,rfl,.of_eq (congrArg (AV.lst _ 16) (lM out 5 ⟨#[]⟩ x ⟨#[]⟩ (toB nm) [] []))⟩,trivial⟩ ⟨kJ,trivial⟩ rfl rfl ⟨rfl,trivial⟩,i2⟩
  |false=>
   dsimp only at g;have I:=hpa t.s;generalize (⟨l,at_+1,p,r⟩:MK).pipe t.s=q at g I hpt;obtain ⟨x,i⟩:=q;dsimp only at g I hpt;refine kCf ?_;refine kW ?_;refine kP [.s [2000000] (mnS i) (.agg (exV x))] ?_ ?_
   ·((repeat' apply aI)<;>first|exact kD|(intro R;refine ⟨?_,kG⟩;(repeat' apply aI)<;>first|exact kD|skip)|skip)
    all_goals simp only [fU,List.length_nil,gA3]
    all_goals omega
   refine kW ?_;obtain ⟨i1,i2⟩:=inv (.mk 1 ⟨#[]⟩ x ⟨#[]⟩ ⟨#[]⟩ [] []) i I.1 I.2.1 I.2.2 g;exact AK.lp ⟨(j,out++ [(.mk 1 ⟨#[]⟩ x ⟨#[]⟩ ⟨#[]⟩ [] [])],i,_),i1,wN ⟨kI,⟨_,rfl,.of_eq (congrArg (AV.lst _ 16) (lM out 1 ⟨#[]⟩ x ⟨#[]⟩ ⟨#[]⟩ [] []))⟩,trivial⟩ ⟨kJ,trivial⟩ rfl rfl ⟨rfl,trivial⟩,i2⟩
 ·have hge:l.length≤at_:=by
   have: ¬at_<l.length:=by simpa [aW] using hb
   omega
  clear hb;rw [List.getElem?_eq_none_iff.2 hge] at g;cases g;refine AK.exit rfl ?_;refine kW ?_;exact aR ⟨⟨_,rfl,rfl⟩,⟨_,rfl,rfl⟩,trivial⟩
end Go.Proofs.YtbgflifmanjpjaaGreatDoor
