/- Part 45. -/
import Derived.Test.YtbgflifmanjpjaaGreatDoorS44
set_option linter.unusedSimpArgs false
set_option linter.unusedVariables false
namespace Go.Proofs.YtbgflifmanjpjaaGreatDoor
open Go.RowKit
abbrev mnC (m:MK):List AV:= [.lst .any 3 (ba m.l),.int .i64 (m.at_:Int),.int .i64 m.deep,.int .i64 m.bad]
abbrev mnS (m:MK):List (Nat×List AV):= [(2000000,mnC m)]
theorem qg (m:MK) (e:Int):MS Tryz.prog 59 (mnS m) [.np 2000000 0,.int .i64 e] (mnS (m.fail e)) (.tup []):=by
 obtain ⟨l,at_,i,j⟩:=m;have hlen:(((ba l).length:Nat):Int)=(l.length:Int):=by rw [aX]
 refine MS.enter Tryz.func59 lw lx (by rfl) (by rfl) fun E r=> ?_
 show AK _ _ _ [.c el] _ _;rw [el];refine kW ?_;refine kC (fun hb=> ?_) fun hb=> ?_
 ·have g:j=0:=by simpa using hb
  have p:(⟨l,at_,i,j⟩:MK).fail e=⟨l,l.length,i,e⟩:=by unfold MK.fail;rw [if_pos g]
  rw [p];refine kW ?_;show RQS _ _ _ .normal _ _;exact ⟨⟨_,rfl,rfl⟩,⟨_,rfl,congrArg (fun n:Int=> [AV.lst .any 3 (ba l),.int .i64 n,.int .i64 i,.int .i64 e]) hlen⟩,trivial⟩
 ·have g: ¬j=0:=by simpa using hb
  have p:(⟨l,at_,i,j⟩:MK).fail e=⟨l,l.length,i,j⟩:=by unfold MK.fail;rw [if_neg g]
  rw [p];refine kW ?_;show RQS _ _ _ .normal _ _;exact ⟨⟨_,rfl,rfl⟩,⟨_,rfl,congrArg (fun n:Int=> [AV.lst .any 3 (ba l),.int .i64 n,.int .i64 i,.int .i64 j]) hlen⟩,trivial⟩
theorem qh (m:MK) (s:Bs) (hl:s.length≤1000000):MS Tryz.prog 112 (mnS m) [.np 2000000 0,.str (toB s)] (mnS (m.pipe s).2) (.agg (m.pipe s).1.row):=by
 have g:=Mm s hl;unfold MK.pipe;generalize tQ s=q at*;obtain ⟨x,e⟩:=q;have j:=qg m e;obtain ⟨l,at_,p,r⟩:=m;dsimp only at g⊢;rw [EX.row_eq] at g⊢;refine MS.enter Tryz.func112 ly lz (by rfl) (by rfl) fun E C=> ?_
 show AK _ _ _ [.c em] _ _;rw [em];refine kW ?_;refine kQ [.v (.tup [.agg (exV x),.int .i64 e])] ?_;refine kW ?_;refine kC (fun hb=> ?_) fun hb=> ?_
 ·have i:e≠0:=by simpa using hb
  rw [if_pos i];refine kW ?_;refine kQ [.s [2000000] (mnS ((⟨l,at_,p,r⟩:MK).fail e)) (.tup [])] ?_;refine kW ?_;exact aR ⟨⟨_,rfl,rfl⟩,⟨_,rfl,rfl⟩,trivial⟩
 ·have i:e=0:=by simpa using hb
  rw [if_neg (fun h=>h i)];refine kW ?_;exact aR ⟨⟨_,rfl,rfl⟩,⟨_,rfl,rfl⟩,trivial⟩
theorem Ky {s:Bs} {k:Nat} (i:k≤(nmL s).length) (g:k<s.length):(!atP nf s k||(decide ((k:Int)=0)&& !atP hZ s k))= !decide (k<(nmL s).length):=by
 rw [←Gp i];obtain ⟨c,j⟩: ∃c,s[k]? =some c:=⟨_,gA1 g⟩
 unfold atP;rw [j];dsimp only
 have:decide ((k:Int)=0)= !decide (0<k):=by
  rw [Bool.eq_iff_iff];simp
 rw [this];cases nf c<;>cases decide (0<k)<;>cases hZ c<;>rfl
theorem L2 (s:Bs) (hl:s.length≤1000000):AC Tryz.prog 211 [.str (toB s)] (.bool (JT s)):=by
 have J:=gj s;have r:=Gq s;refine kE Tryz.func211 ud ue fun E U=> ?_
 refine kW ?_;refine aJ (fun k:Nat=>(ar [(0,.str (toB s)),(5,.int .i64 s.length),(6,.int .i64 k)],⟨ag [],fun _=>0⟩)) (fun k=>k≤(nmL s).length) (fun k=>s.length-k) 0 (gB8 _) (wN ⟨kI,⟨_,rfl,.of_eq (congrArg (AV.int _) (congrArg Int.ofNat (ae s)))⟩,kI,trivial⟩ trivial rfl rfl trivial) fun k P=> ?_
 refine kW ?_;refine kC (fun hb=> ?_) fun hb=> ?_
 ·have i:k<s.length:=by simpa using hb
  clear hb;have g:=Ky P i;obtain ⟨c,C⟩: ∃c,s[k]? =some c:=⟨_,gA1 i⟩
  have p:(toB s).data.getD (k:Int).toNat 0=c:=eG (by simpa using C);refine kW ?_;refine kP [.v (.bool (atP nf s k)),.v (.bool (atP hZ s k))] ?_ ?_
  ·((repeat' apply aI)<;>first|exact kD|(intro R;refine ⟨?_,kG⟩;(repeat' apply aI)<;>first|exact kD|skip)|skip)
   all_goals first
    |(rw [ae];omega)
    |(rw [p,rU C];exact Gn c)
    |(rw [p,rU C];exact jA c)
  refine kC (fun hb=> ?_) fun hb=> ?_
  ·have j: ¬k<(nmL s).length:=by
    have h:(!decide (k<(nmL s).length))=true:=g.symm.trans hb;simpa using h
   clear hb g;refine kW ?_;refine aR ⟨_,rfl,?_⟩;refine congrArg AV.bool ?_;unfold JT;rw [decide_eq_false (show¬nmL s=s from fun h=>by rw [h] at j;exact j i)];rfl
  ·have j:k<(nmL s).length:=by
    have h:(!decide (k<(nmL s).length))=false:=g.symm.trans hb;simpa using h
   clear hb g;refine kW ?_;exact AK.lp ⟨k+1,by omega,wN ⟨kI,kI,kU,trivial⟩ trivial rfl rfl trivial,by omega⟩
 ·have T:s.length≤k:=by
   have: ¬k<s.length:=by simpa using hb
   omega
  clear hb;refine AK.exit rfl ?_;have I:nmL s=s:=by rw [←r,List.take_of_length_le (by omega)]
  refine kW ?_;refine kQ [] ?_;refine kW ?_;refine aR ⟨_,rfl,?_⟩;refine congrArg AV.bool ?_;unfold JT;rw [decide_eq_true I,bH,Bool.true_and];congr 1;rw [decide_eq_decide,ae];omega
theorem ND.row_eq (k:Nat) (t:ByteArray) (x:EX) (key n:ByteArray) (b l:List ND):(ND.mk k t x key n b l).row= [.int .i64 (k:Int),.str t]++exV x++ [.str key,.str n,.lst .any 16 (a7 b),.lst .any 16 (a7 l)]:=by
 show ndH k t x key n++_=_;unfold ndH;rw [EX.row_eq];rfl
theorem NY (e:Int) (k:Nat) (g:Int) (b:Bool) (d:Int):((((!decide (e=0)|| !decide ((k:Int)=0))|| !decide (g=3))|| !b)||decide (d>1))=decide (e≠0∨k≠0∨g≠3∨b=false∨1<d):=by
 rw [Bool.eq_iff_iff];cases b<;>simp<;>omega
theorem Id {w:ByteArray} (h:(bw w).1.kind=2):(bw w).1.s.size=0:=by
 unfold bw at h⊢;by_cases hA:w=⟨#[]⟩∨w=⟨#[126]⟩∨w=lS
 ·rw [if_pos hA];rfl
 ·rw [if_neg hA] at h⊢
  by_cases g:w=fU∨w=iH
  ·rw [if_pos g];rfl
  ·rw [if_neg g] at h⊢
   by_cases i:tF w=false
   ·rw [if_pos i] at h
    exfalso
    revert h
    show (3:Int)=2→False;decide
   ·rw [if_neg i]
    cases Lib.atoiAll w.data.toList<;>rfl
theorem iP: ∀(n:Nat) (m:PM) (r:RD) (N:Nat),(match m with| .bars x=>x.v.s.size|_=>0)≤N→r.s.length≤N→(exF n m r).1.v.s.size≤N
 |0,m,r,N,_,_=>gB8 _
 |n+1,.operand,r,N,j,C=>by
  have hl:=cL r.s;rw [exF];cases I:tlw r.s with
  |nil=>exact gB8 _
  |cons c t=>
   rw [I,gA3] at hl;dsimp only;split
   ·cases P:lU (c::t) with
    |none=>exact gB8 _
    |some p=>
     obtain ⟨x,rest⟩:=p;have R:=ir P;rw [gA3] at R;show (toB x).size≤N;rw [ae];omega
   ·split
    ·unfold rE
     generalize J:bw (toB (r.skip.s.take (ia r.skip.s)))=q;obtain ⟨v,e⟩:=q;dsimp only;split
     ·exact gB8 _
     ·rename_i T
      have:=Id (w:=toB (r.skip.s.take (ia r.skip.s))) (by rw [J];exact Classical.not_not.1 fun h=>T (.inr h));rw [J] at this;have this:v.s.size=0:=this;show v.s.size≤N;omega
    ·split
     ·exact gB8 _
     ·split
      ·split<;>exact gB8 _
      ·split
       ·split
        ·exact gB8 _
        ·have ih:=iP n .pipe ⟨t,IntKind.i64.wrap (r.deep+1),r.bad⟩ N (gB8 _) (by show t.length≤N;omega)
         generalize exF n .pipe ⟨t,IntKind.i64.wrap (r.deep+1),r.bad⟩=q at ih;obtain ⟨x,b,i⟩:=q;dsimp only at ih⊢;split
         ·exact gB8 _
         ·split
          ·exact ih
          ·exact gB8 _
       ·split
        ·split
         ·exact gB8 _
         ·split<;>exact gB8 _
        ·exact gB8 _
 |n+1,.command,r,N,j,C=>by
  rw [exF];have ih:=iP n .operand r N (gB8 _) C;have g:=(bN n .operand r).1;generalize exF n .operand r=q at ih g;obtain ⟨x,b,i⟩:=q;have g:x.args.length+i.s.length≤0+r.s.length:=g;cases b with
  |true=>exact ih
  |false=>
   dsimp only;split
   ·exact gB8 _
   ·exact iP n (.args _ []) _ N (gB8 _) (by show (i.s.drop _).length≤N;rw [gA6];omega)
 |n+1,.args nm out,r,N,j,C=>by
  rw [exF];have g:=(bN n .operand r).1;generalize exF n .operand r=q at g;obtain ⟨x,b,i⟩:=q;have g:x.args.length+i.s.length≤0+r.s.length:=g;cases b with
  |true=>exact iP n (.args _ _) _ N (gB8 _) (by show i.s.length≤N;omega)
  |false=>
   dsimp only;split
   ·exact gB8 _
   ·exact iP n (.args _ _) _ N (gB8 _) (by show (i.s.drop _).length≤N;rw [gA6];omega)
 |n+1,.pipe,r,N,j,C=>by
  rw [exF];have ih:=iP n .command r N (gB8 _) C;have g:=(bN n .command r).1;generalize exF n .command r=q at ih g;obtain ⟨x,b,i⟩:=q;have g:x.args.length+i.s.length≤0+r.s.length:=g;exact iP n (.bars x) i N ih (by omega)
 |n+1,.bars x,r,N,j,C=>by
  have hl:=cL r.s;rw [exF];cases I:tlw r.s with
  |nil=>exact j
  |cons c t=>
   rw [I,gA3] at hl;dsimp only;split
   ·have ih:=iP n .command (r.to t) N (gB8 _) (by show t.length≤N;omega)
    have g:=(bN n .command (r.to t)).1;generalize exF n .command (r.to t)=q at ih g;obtain ⟨y,b,i⟩:=q;have g:y.args.length+i.s.length≤0+t.length:=g;dsimp only at ih⊢;split
    ·exact gB8 _
    ·exact iP n (.bars _) i N ih (by omega)
   ·exact j
theorem Gz (s:Bs):(tQ s).1.v.s.size≤s.length:=by
 have h:=iP (4*s.length+4) .pipe ⟨s,0,0⟩ s.length (gB8 _) (gA4 _);unfold tQ;generalize exF (4*s.length+4) .pipe ⟨s,0,0⟩=q at h;obtain ⟨x,b,r⟩:=q;dsimp only at h⊢;split
 ·exact gB8 _
 ·split
  ·exact gB8 _
  ·exact h
theorem tb (w p:Bs):decide (toB w=toB p)=decide (w=p):=decide_eq_decide.2 cK
theorem xg (s:Bs):(nh s).2.1.length≤s.length:=by
 have hl:=cL s;unfold nh LB;cases g:tlw s with
 |nil=>exact gB8 _
 |cons c t=>
  rw [g,gA3] at hl;dsimp only;split
  ·exact gB8 _
  ·rename_i h
   split at h
   ·cases h
    have:=cL (t.drop (nmL t).length);rw [gA6] at this;show (tlw (t.drop (nmL t).length)).length≤_;omega
   ·cases h
theorem xh (s:Bs):(iJ s).2.1.length≤s.length:=by
 have hl:=xg s;unfold iJ;generalize nh s=q at*;obtain ⟨n,r,b⟩:=q;dsimp only at hl⊢;cases b
 ·exact hl
 ·dsimp only
  split
  ·show (r.drop 2).length≤_
   rw [gA6];omega
  ·exact hl
abbrev ndZ (k:Int) (key nm:ByteArray):List AV:= [.int .i64 k,.str ⟨#[]⟩,.int .i64 0,.int .i64 0,.bool false,.int .i64 0,.str ⟨#[]⟩,.lst .nil 6 [],.lst .nil 7 [],.str ⟨#[]⟩,.lst .nil 1 [],.lst .nil 10 [],.str key,.str nm,.lst .nil 16 [],.lst .nil 16 []]
theorem L3 (m:MK) (w s:Bs) (hl:s.length≤1000000):MS Tryz.prog 159 (mnS m) [.np 2000000 0,.str (toB w),.str (toB s)] (mnS (eY m w s).2) (.agg (eY m w s).1.row):=by
 refine MS.enter Tryz.func159 lA lB (by rfl) (by rfl) fun E hE=> ?_
 show AK _ _ _ [.c en] _ _;rw [en];refine kW ?_;rw [show decide (toB w=⟨#[105,102]⟩)=decide (w=wIf) from tb w wIf];by_cases C:w=wIf
 ·have i:=qh m s hl
  unfold eY;rw [if_pos C,ND.row_eq,decide_eq_true C];rw [EX.row_eq] at i;generalize m.pipe s=q at i⊢;refine kCt ?_;refine kW ?_;refine kQ [.s [2000000] (mnS q.2) (.agg (exV q.1))] ?_;exact aR ⟨⟨_,rfl,rfl⟩,⟨_,rfl,rfl⟩,trivial⟩
 rw [decide_eq_false C];refine kCf ?_;refine kW ?_;rw [show decide (toB w=⟨#[119,105,116,104]⟩)=decide (w=sL) from tb w sL];by_cases I:w=sL
 ·have i:=qh m s hl
  unfold eY;rw [if_neg C,if_pos I,ND.row_eq,decide_eq_true I];rw [EX.row_eq] at i;generalize m.pipe s=q at i⊢;refine kCt ?_;refine kW ?_;refine kQ [.s [2000000] (mnS q.2) (.agg (exV q.1))] ?_;exact aR ⟨⟨_,rfl,rfl⟩,⟨_,rfl,rfl⟩,trivial⟩
 rw [decide_eq_false I];refine kCf ?_;refine kW ?_;rw [show decide (toB w=⟨#[100,101,102,105,110,101]⟩)=decide (w=tT) from tb w tT];by_cases h3:w=tT
 ·have p:=Mm s hl
  have J:=Gz s;unfold eY;rw [if_neg C,if_neg I,if_pos h3,decide_eq_true h3];generalize tQ s=q at p J⊢;obtain ⟨x,e⟩:=q;dsimp only at p J⊢;have hnm:=L2 x.v.s.data.toList (by show x.v.s.size≤_;omega);have hor:=Dr e 22;have hfl:=qg m (if e=0 then 22 else e);rw [EX.row_eq] at p;rw [ND.row_eq];refine kCt ?_;refine kW ?_;refine kQ [.v (.tup [.agg (exV x),.int .i64 e])] ?_;refine kW ?_;refine kQ [.v (.bool (JT x.v.s.data.toList))] ?_;rw [NY];refine kC (fun hb=> ?_) fun hb=> ?_
  ·have j:=gB3 hb
   clear hb;rw [if_pos j];refine kW ?_;refine kQ [.v (.int .i64 (if e=0 then 22 else e)),.s [2000000] (mnS (m.fail (if e=0 then 22 else e))) (.tup [])] ?_;refine kW ?_;exact aR ⟨⟨_,rfl,rfl⟩,⟨_,rfl,rfl⟩,trivial⟩
  ·have j:=gB4 hb
   clear hb;rw [if_neg j];refine kW ?_;exact aR ⟨⟨_,rfl,rfl⟩,⟨_,rfl,rfl⟩,trivial⟩
 rw [decide_eq_false h3];refine kCf ?_;refine kW ?_;have hv:=xd s hl;have P:=Fk s hl
 have e:eY m w s=(.mk 4 ⟨#[]⟩ (m.pipe (fR s).2.2).1 (toB (fR s).1) (toB (fR s).2.1) [] [],(m.pipe (fR s).2.2).2):=by
  unfold eY;rw [if_neg C,if_neg I,if_neg h3]
 rw [e,ND.row_eq];clear e;unfold fR;have R:=xg s;generalize nh s=q at hv R⊢;obtain ⟨key,rest,b⟩:=q;dsimp only at hv R⊢;have hpr:=fg rest 44;rw [show bE 44 rest=([44]:Bs).isPrefixOf rest from by cases rest<;>simp [bE,List.isPrefixOf,BEq.comm]] at hpr;refine kQ [.v (.tup [.str (toB key),.str (toB rest),.bool b])] ?_;refine kW ?_;refine kQ [.v (.bool (([44]:Bs).isPrefixOf rest))] ?_
 obtain ⟨g,hg⟩: ∃g:Bs×Bs×Bs,g=(if (b&&([44]:Bs).isPrefixOf rest)=true then (match iJ (rest.drop 1) with
   |(name,more,is)=>if is=true then (key,name,more) else ([],[],s))
  else (match iJ s with
   |(name,more,is)=>if is=true then ([],name,more) else ([],[],s))):=⟨_,rfl⟩
 rw [←hg]
 have T:g.2.2.length≤1000000:=by
  have a1:=xh (rest.drop 1);have a2:=xh s;rw [gA6] at a1;generalize iJ (rest.drop 1)=q1 at hg a1;generalize iJ s=U at hg a2;obtain ⟨n1,m1,c1⟩:=q1;obtain ⟨n2,m2,c2⟩:=U;dsimp only at hg a1 a2;rw [hg];cases b&&([44]:Bs).isPrefixOf rest<;>cases c1<;>cases c2<;>first|exact hl|(show m1.length≤_;omega)|(show m2.length≤_;omega)
 have i:=qh m g.2.2 T;rw [EX.row_eq] at i;refine AK.cutK (fun _:Unit=>True) (fun _=>ar [(0,.np 2000000 0),(2,.str (toB g.2.2)),(6,.ptr 6 0),(9,.ptr 9 0)]) (fun _=>⟨ag [(6,ndZ 0 ⟨#[]⟩ ⟨#[]⟩,false),(9,ndZ 4 (toB g.1) (toB g.2.1),false),(2000000,mnC m,false)],fun _=>0⟩) ?_ fun _ _=> ?_
 ·clear i T
  refine kC (fun hb=> ?_) fun hb=> ?_
  ·have j:(b&&([44]:Bs).isPrefixOf rest)=true:=hb
   clear hb;rw [if_pos j] at hg
   have hrl:1≤rest.length:=by
    cases rest with
    |nil=>simp at j
    |cons _ _=>simp
   have r:=Fk (rest.drop 1) (by rw [gA6];omega);generalize iJ (rest.drop 1)=U at hg r;obtain ⟨n2,m2,c2⟩:=U;dsimp only at hg r;refine kW ?_;refine kP [.v (.tup [.str (toB n2),.str (toB m2),.bool c2])] ?_ ?_
   ·((repeat' apply aI)<;>first|exact kD|(intro hgd;refine ⟨?_,kG⟩;(repeat' apply aI)<;>first|exact kD|skip)|skip)
    all_goals first|(rw [ae];omega)|(rw [show ((1:Int)).toNat=((1:Nat):Int).toNat from rfl,bg];exact r)
   refine kW ?_;cases c2 with
   |true=>
    subst hg;refine kCt ?_;refine kW ?_;exact cE ⟨(),trivial,wN ⟨kI,kI,kI,kI,trivial⟩ ⟨kJ,kJ,kJ,trivial⟩ rfl rfl ⟨rfl,trivial⟩⟩
   |false=>
    subst hg;refine kCf ?_;refine kW ?_;exact cE ⟨(),trivial,wN ⟨kI,kI,kI,kI,trivial⟩ ⟨kJ,kJ,kJ,trivial⟩ rfl rfl ⟨rfl,trivial⟩⟩
  ·have j: ¬(b&&([44]:Bs).isPrefixOf rest)=true:=by
    intro h;rw [show (b&&([44]:Bs).isPrefixOf rest)=false from hb] at h;cases h
   clear hb;rw [if_neg j] at hg;generalize iJ s=U at hg P;obtain ⟨n2,m2,c2⟩:=U;dsimp only at hg P;refine kW ?_;refine kQ [.v (.tup [.str (toB n2),.str (toB m2),.bool c2])] ?_;refine kW ?_;cases c2 with
   |true=>
    subst hg;refine kCt ?_;refine kW ?_;exact cE ⟨(),trivial,wN ⟨kI,kI,kI,kI,trivial⟩ ⟨kJ,kJ,kJ,trivial⟩ rfl rfl ⟨rfl,trivial⟩⟩
   |false=>
    subst hg;refine kCf ?_;refine kW ?_;exact cE ⟨(),trivial,wN ⟨kI,kI,kI,kI,trivial⟩ ⟨kJ,kJ,kJ,trivial⟩ rfl rfl ⟨rfl,trivial⟩⟩
 generalize m.pipe g.2.2=q at i⊢;refine kW ?_;refine kQ [.s [2000000] (mnS q.2) (.agg (exV q.1))] ?_;refine kW ?_;exact aR ⟨⟨_,rfl,rfl⟩,⟨_,rfl,rfl⟩,trivial⟩
def TK (m:MK):Prop:=m.l.length≤1000000∧m.at_≤m.l.length∧ ∀t∈m.l,t.s.length≤1000000
def QN (n:Nat):Prop:= ∀(m:MK) (out:List ND) (st re:Bs) (g:MK),TK m→3*(m.l.length-m.at_)+2≤n→ndF n (.nodes []) m=(out,st,re,g)→MS Tryz.prog 58 (mnS m) [.np 2000000 0] (mnS g) (.tup [.lst .any 16 (a7 out),.str (toB st),.str (toB re)])
def QB (n:Nat):Prop:= ∀(m:MK) (w s:Bs) (nd:ND) (st re:Bs) (g:MK),TK m→s.length≤1000000→3*(m.l.length-m.at_)+3≤n→ndF n (.block w s) m=([nd],st,re,g)→MS Tryz.prog 110 (mnS m) [.np 2000000 0,.str (toB w),.str (toB s)] (mnS g) (.agg nd.row)
abbrev mdJ:Nat×List ND×MK×(Nat→Nat)→Fr×St:=fun x=>(ar [(0,.np 2000000 0),(2,.lst (.own 46 (x.2.2.2 46)) 16 (a7 x.2.1))],⟨ag [(2000000,mnC x.2.2.1,false)],x.2.2.2⟩)
abbrev ndV (k:Nat) (t:ByteArray) (x:EX) (key n:ByteArray) (b l:List ND):List AV:= [.int .i64 (k:Int),.str t]++exV x++ [.str key,.str n,.lst .any 16 (a7 b),.lst .any 16 (a7 l)]
theorem md (out:List ND) (k:Nat) (t:ByteArray) (x:EX) (key n:ByteArray) (b l:List ND):a7 out++ [ndV k t x key n b l]=a7 (out++ [.mk k t x key n b l]):=by rw [EU,ND.row_eq]
theorem L4 (n:Nat) (hB: ∀k≤n,QB k):QN (n+1):=fun U J ST RE M hTK hn g=>by
 refine MS.enter Tryz.func58 kM kO (by rfl) (by rfl) fun E hE=> ?_
 show AK _ _ _ [.c dQ] _ _;rw [dQ];have hI0:TK U∧3*(U.l.length-U.at_)+2≤n+1∧n+1≤n+1∧([]:List ND).length+(U.l.length-U.at_)≤1000000∧ndF (n+1) (.nodes []) U=(J,ST,RE,M):=⟨hTK,hn,gA4 _,by have:=hTK.1;show 0+_≤_;omega,g⟩
 refine kW ?_;refine aJ mdJ (fun x=>TK x.2.2.1∧3*(x.2.2.1.l.length-x.2.2.1.at_)+2≤x.1∧x.1≤n+1∧x.2.1.length+(x.2.2.1.l.length-x.2.2.1.at_)≤1000000∧ndF x.1 (.nodes x.2.1) x.2.2.1=(J,ST,RE,M)) (fun x=>x.2.2.1.l.length-x.2.2.1.at_) (n+1,[],U,fun _=>0) hI0 (wN ⟨kI,⟨_,rfl,.one (.own _ _ _ _)⟩,trivial⟩ ⟨kJ,trivial⟩ rfl rfl ⟨rfl,trivial⟩) fun ⟨j,out,m,w⟩ hI=> ?_
 clear hI0 g hTK hn;obtain ⟨⟨hl1,hl2,P⟩,hn1,hn2,hb0,g⟩:=hI;obtain ⟨l,at_,p,r⟩:=m;dsimp only at hl1 hl2 P hn1 hn2 hb0 g;obtain ⟨j,rfl⟩: ∃n',j=n' +1:=⟨j-1,by omega⟩
 have hB:=hB j (by omega);show AK _ _ _ _ (ar _) _;rw [ndF] at g;dsimp only at g;refine kW ?_;refine kC (fun hb=> ?_) fun hb=> ?_
 ·have hlt:at_<l.length:=by simpa [aX] using hb
  clear hb;obtain ⟨t,ht⟩: ∃t,l[at_]? =some t:=⟨_,gA1 hlt⟩
  have htl:=P t (gA2 ht);rw [ht] at g;dsimp only at g;refine kW ?_;refine kP [.c (tkT t)] ?_ ?_
  ·((repeat' apply aI)<;>first|exact kD|(intro R;refine ⟨?_,kG⟩;(repeat' apply aI)<;>first|exact kD|skip)|skip)
   all_goals first|exact JR ht|(rw [aX];omega)|skip
  have hwr:IntKind.i64.wrap ((at_:Int)+1)=((at_+1:Nat):Int):=by rw [aD (by omega) (by omega)];omega
  refine kW ?_;refine AK.weak (wN (row:=w) (L:= [(0,.np 2000000 0),(2,.lst (.own 46 (w 46)) 16 (a7 out)),(5,.ptr 5 0),(40,.bool (!t.act))]) (BL:= [(5,tkT t,false),(2000000,mnC ⟨l,at_+1,p,r⟩,false)]) ⟨kI,kI,kI,kI,trivial⟩ ⟨kJ,⟨_,rfl,.refl _,by rw [hwr];exact .refl _,.refl _,.refl _,trivial⟩,trivial⟩ rfl rfl ⟨rfl,trivial⟩) ?_
  have inv: ∀(nd:ND) (i:MK),i.l=l→at_+1≤i.at_→i.at_≤l.length→ndF j (.nodes (out++ [nd])) i=(J,ST,RE,M)→(TK i∧3*(i.l.length-i.at_)+2≤j∧j≤n+1∧(out++ [nd]).length+(i.l.length-i.at_)≤1000000∧ndF j (.nodes (out++ [nd])) i=(J,ST,RE,M))∧i.l.length-i.at_<l.length-at_:=fun nd i e1 e2 e3 e4=>by
   refine ⟨⟨⟨by rw [e1];exact hl1,by rw [e1];exact e3,fun t ht=>P t (by rw [←e1];exact ht)⟩,?_,by omega,?_,e4⟩,?_⟩
   ·rw [e1];omega
   ·rw [e1,gA5,List.length_singleton];omega
   ·rw [e1];omega
  have hpa:=fun s=>(⟨l,at_+1,p,r⟩:MK).pipe_at s ⟨MK.pipe_l _ s,by show at_+1≤l.length;omega⟩
  refine kC (fun hb=> ?_) fun hb=> ?_
  ·have C:t.act=false:=by simpa using hb
   clear hb;rw [if_pos C] at g;refine kW ?_;refine kP [] ?_ ?_
   ·((repeat' apply aI)<;>first|exact kD|(intro R;refine ⟨?_,kG⟩;(repeat' apply aI)<;>first|exact kD|skip)|skip)
    all_goals simp only [gv,List.length_nil,gA3]
    all_goals omega
   refine AK.exit rfl ?_;refine kW ?_;obtain ⟨i1,i2⟩:=inv (.mk 0 (toB t.s) EX.null ⟨#[]⟩ ⟨#[]⟩ [] []) ⟨l,at_+1,p,r⟩ rfl (gA4 _) (by show at_+1≤_;omega) g;exact AK.lp ⟨(j,out++ [(.mk 0 (toB t.s) EX.null ⟨#[]⟩ ⟨#[]⟩ [] [])],⟨l,at_+1,p,r⟩,_),i1,wN ⟨kI,⟨_,rfl,.of_eq (congrArg (AV.lst _ 16) (md out 0 (toB t.s) EX.null ⟨#[]⟩ ⟨#[]⟩ [] []))⟩,trivial⟩ ⟨kJ,trivial⟩ rfl rfl ⟨rfl,trivial⟩,i2⟩
  have C: ¬t.act=false:=by simpa using hb
  clear hb;rw [if_neg C] at g;have hwd:=Gv t.s htl;refine kW ?_;refine kQ [.v (.tup [.str (toB (nmL t.s)),.str (toB (ck t.s))])] ?_;refine kW ?_;rw [show decide (toB (nmL t.s)=⟨#[101,110,100]⟩)=decide (nmL t.s=rF) from tb _ rF];refine AK.cutK (fun _:Unit=>True) (fun _=>ar [(0,.np 2000000 0),(2,.lst (.own 46 (w 46)) 16 (a7 out)),(5,.ptr 5 0),(6,.str (toB (nmL t.s))),(7,.str (toB (ck t.s))),(53,.str (toB (nmL t.s))),(54,.bool (decide (nmL t.s=rF∨nmL t.s=jn)))]) (fun _=>⟨ag [(5,tkT t,false),(2000000,mnC ⟨l,at_+1,p,r⟩,false)],w⟩) ?_ fun _ _=> ?_
  ·refine kC (fun hb=> ?_) fun hb=> ?_
   ·have h:=gB3 hb
    refine kW ?_;exact cE ⟨(),trivial,wN ⟨kI,kI,kI,kI,kI,kI,⟨_,rfl,.of_eq (congrArg AV.bool (by rw [decide_eq_true h,decide_eq_true (Or.inl h)]))⟩,trivial⟩ ⟨kJ,kJ,trivial⟩ rfl rfl ⟨rfl,trivial⟩⟩
   ·have h:=gB4 hb
    refine kW ?_;exact cE ⟨(),trivial,wN ⟨kI,kI,kI,kI,kI,kI,⟨_,rfl,.of_eq (congrArg AV.bool ((tb _ jn).trans (decide_eq_decide.2 ⟨Or.inr,fun k=>k.resolve_left h⟩)))⟩,trivial⟩ ⟨kJ,kJ,trivial⟩ rfl rfl ⟨rfl,trivial⟩⟩
  refine kC (fun hb=> ?_) fun hb=> ?_
  ·have h:=gB3 hb
   clear hb;rw [if_pos h] at g;cases g;refine kW ?_;exact aR ⟨⟨_,rfl,rfl⟩,⟨_,rfl,rfl⟩,trivial⟩
  have h1:=gB4 hb;clear hb;rw [if_neg h1] at g;refine kW ?_;rw [show decide (toB (nmL t.s)=⟨#[105,102]⟩)=decide (nmL t.s=wIf) from tb _ wIf];refine AK.cutK (fun _:Unit=>True) (fun _=>ar [(0,.np 2000000 0),(2,.lst (.own 46 (w 46)) 16 (a7 out)),(5,.ptr 5 0),(6,.str (toB (nmL t.s))),(7,.str (toB (ck t.s))),(53,.str (toB (nmL t.s))),(60,.bool (decide (nmL t.s=wIf∨nmL t.s=sL∨nmL t.s=AL∨nmL t.s=tT)))]) (fun _=>⟨ag [(5,tkT t,false),(2000000,mnC ⟨l,at_+1,p,r⟩,false)],w⟩) ?_ fun _ _=> ?_
  ·refine kC (fun hb=> ?_) fun hb=> ?_
   ·have h:=gB3 hb
    refine kW ?_;exact cE ⟨(),trivial,wN ⟨kI,kI,kI,kI,kI,kI,⟨_,rfl,.of_eq (congrArg AV.bool (by rw [decide_eq_true h,decide_eq_true (Or.inl h)]))⟩,trivial⟩ ⟨kJ,kJ,trivial⟩ rfl rfl ⟨rfl,trivial⟩⟩
   have h:=gB4 hb;clear hb;refine kW ?_;rw [show decide (toB (nmL t.s)=⟨#[119,105,116,104]⟩)=decide (nmL t.s=sL) from tb _ sL];refine kC (fun hb=> ?_) fun hb=> ?_
   ·have k:=gB3 hb
    refine kW ?_;exact cE ⟨(),trivial,wN ⟨kI,kI,kI,kI,kI,kI,⟨_,rfl,.of_eq (congrArg AV.bool (by rw [decide_eq_true k,decide_eq_true (Or.inr (Or.inl k))]))⟩,trivial⟩ ⟨kJ,kJ,trivial⟩ rfl rfl ⟨rfl,trivial⟩⟩
   have h2:=gB4 hb;clear hb;refine kW ?_;rw [show decide (toB (nmL t.s)=⟨#[114,97,110,103,101]⟩)=decide (nmL t.s=AL) from tb _ AL];refine kC (fun hb=> ?_) fun hb=> ?_
   ·have k:=gB3 hb
    refine kW ?_;exact cE ⟨(),trivial,wN ⟨kI,kI,kI,kI,kI,kI,⟨_,rfl,.of_eq (congrArg AV.bool (by rw [decide_eq_true k,decide_eq_true (Or.inr (Or.inr (Or.inl k)))]))⟩,trivial⟩ ⟨kJ,kJ,trivial⟩ rfl rfl ⟨rfl,trivial⟩⟩
   have h3:=gB4 hb;clear hb;refine kW ?_;exact cE ⟨(),trivial,wN ⟨kI,kI,kI,kI,kI,kI,⟨_,rfl,.of_eq (congrArg AV.bool ((tb _ tT).trans (decide_eq_decide.2 ⟨fun k=>Or.inr (Or.inr (Or.inr k)),fun k=>((k.resolve_left h).resolve_left h2).resolve_left h3⟩)))⟩,trivial⟩ ⟨kJ,kJ,trivial⟩ rfl rfl ⟨rfl,trivial⟩⟩
  refine kC (fun hb=> ?_) fun hb=> ?_
  ·have h:=gB3 hb
   clear hb;rw [if_pos h] at g;rcases hbk:ndF j (.block (nmL t.s) (ck t.s)) ⟨l,at_+1,p,r⟩ with ⟨bl,st2,re2,i⟩
   rw [hbk] at g;have T:=eR j (.block (nmL t.s) (ck t.s)) ⟨l,at_+1,p,r⟩ (by show at_+1≤l.length;omega);rw [hbk] at T;obtain ⟨f1,f2,f3,_,f5⟩:=T;have f5:=f5 _ _ rfl (by omega);dsimp only at f1 f2 f3 f5 g;obtain ⟨nd,rfl⟩:=List.length_eq_one_iff.1 f5;have hBk:=hB ⟨l,at_+1,p,r⟩ (nmL t.s) (ck t.s) nd st2 re2 i ⟨hl1,by show at_+1≤l.length;omega,P⟩ (by unfold ck;rw [gA6];omega) (by show 3*(l.length-(at_+1))+3≤j;omega) hbk;obtain ⟨k,tt,x,key,nm,bb,ll⟩:=nd;rw [ND.row_eq] at hBk;refine kW ?_;refine kP [.s [2000000] (mnS i) (.agg (ndV k tt x key nm bb ll))] ?_ ?_
   ·((repeat' apply aI)<;>first|exact kD|(intro R;refine ⟨?_,kG⟩;(repeat' apply aI)<;>first|exact kD|skip)|skip)
    all_goals simp only [gv,List.length_nil,gA3]
    all_goals omega
   refine AK.exit rfl ?_;refine kW ?_;obtain ⟨i1,i2⟩:=inv (.mk k tt x key nm bb ll) i f1 f2 f3 g;exact AK.lp ⟨(j,out++ [(.mk k tt x key nm bb ll)],i,_),i1,wN ⟨kI,⟨_,rfl,.of_eq (congrArg (AV.lst _ 16) (md out k tt x key nm bb ll))⟩,trivial⟩ ⟨kJ,trivial⟩ rfl rfl ⟨rfl,trivial⟩,i2⟩
  have h2:=gB4 hb;clear hb;rw [if_neg h2] at g;have hst:=Fk t.s htl;have hsl:=xh t.s;have hpt:=qh ⟨l,at_+1,p,r⟩ t.s htl;rw [EX.row_eq] at hpt;generalize iJ t.s=q2 at g hst hsl;obtain ⟨nm,rest,c⟩:=q2;dsimp only at hst hsl;have hpr:=qh ⟨l,at_+1,p,r⟩ rest (by omega);rw [EX.row_eq] at hpr;refine kW ?_;refine kQ [.v (.tup [.str (toB nm),.str (toB rest),.bool c])] ?_;refine kW ?_;cases c with
  |true=>
   dsimp only at g;have I:=hpa rest;generalize (⟨l,at_+1,p,r⟩:MK).pipe rest=q at g I hpr;obtain ⟨x,i⟩:=q;dsimp only at g I hpr;refine kCt ?_;refine kW ?_;refine kP [.s [2000000] (mnS i) (.agg (exV x))] ?_ ?_
   ·((repeat' apply aI)<;>first|exact kD|(intro R;refine ⟨?_,kG⟩;(repeat' apply aI)<;>first|exact kD|skip)|skip)
    all_goals simp only [gv,List.length_nil,gA3]
    all_goals omega
   refine AK.exit rfl ?_;refine kW ?_;obtain ⟨i1,i2⟩:=inv (.mk 5 ⟨#[]⟩ x ⟨#[]⟩ (toB nm) [] []) i I.1 I.2.1 I.2.2 g;exact AK.lp ⟨(j,out++ [(.mk 5 ⟨#[]⟩ x ⟨#[]⟩ (toB nm) [] [])],i,_),i1,wN ⟨kI,⟨_,rfl,.of_eq (congrArg (AV.lst _ 16) (md out 5 ⟨#[]⟩ x ⟨#[]⟩ (toB nm) [] []))⟩,trivial⟩ ⟨kJ,trivial⟩ rfl rfl ⟨rfl,trivial⟩,i2⟩
  |false=>
   dsimp only at g;have I:=hpa t.s;generalize (⟨l,at_+1,p,r⟩:MK).pipe t.s=q at g I hpt;obtain ⟨x,i⟩:=q;dsimp only at g I hpt;refine kCf ?_;refine kW ?_;refine kP [.s [2000000] (mnS i) (.agg (exV x))] ?_ ?_
   ·((repeat' apply aI)<;>first|exact kD|(intro R;refine ⟨?_,kG⟩;(repeat' apply aI)<;>first|exact kD|skip)|skip)
    all_goals simp only [gv,List.length_nil,gA3]
    all_goals omega
   refine kW ?_;obtain ⟨i1,i2⟩:=inv (.mk 1 ⟨#[]⟩ x ⟨#[]⟩ ⟨#[]⟩ [] []) i I.1 I.2.1 I.2.2 g;exact AK.lp ⟨(j,out++ [(.mk 1 ⟨#[]⟩ x ⟨#[]⟩ ⟨#[]⟩ [] [])],i,_),i1,wN ⟨kI,⟨_,rfl,.of_eq (congrArg (AV.lst _ 16) (md out 1 ⟨#[]⟩ x ⟨#[]⟩ ⟨#[]⟩ [] []))⟩,trivial⟩ ⟨kJ,trivial⟩ rfl rfl ⟨rfl,trivial⟩,i2⟩
 ·have hge:l.length≤at_:=by
   have: ¬at_<l.length:=by simpa [aX] using hb
   omega
  clear hb;rw [List.getElem?_eq_none_iff.2 hge] at g;cases g;refine AK.exit rfl ?_;refine kW ?_;exact aR ⟨⟨_,rfl,rfl⟩,⟨_,rfl,rfl⟩,trivial⟩
theorem jH: ∀(n:Nat) (k:NM) (m:MK) (N:Nat),m.at_≤m.l.length→(∀t∈m.l,t.s.length≤N)→(ndF n k m).2.2.1.length≤N
 |0,k,m,N,_,_=>gB8 _
 |n+1,.nodes out,m,N,r,h=>by
  rw [ndF];cases p:m.l[m.at_]? with
  |none=>exact gB8 _
  |some t=>
   have ht:=h t (gA2 p);have i:=(gA0 p).1;dsimp only;have g:=fun s=>(⟨m.l,m.at_+1,m.deep,m.bad⟩:MK).pipe_at s ⟨MK.pipe_l _ s,i⟩
   split
   ·exact jH n _ _ N i h
   ·split
    ·show (ck t.s).length≤N
     unfold ck;rw [gA6];omega
    ·split
     ·have j:=eR n (.block (nmL t.s) (ck t.s)) ⟨m.l,m.at_+1,m.deep,m.bad⟩ i
      exact jH n _ _ N (by rw [j.1];exact j.2.2.1) (by rw [j.1];exact h)
     ·split
      ·exact jH n _ _ N (by rw [(g _).1];exact (g _).2.2) (by rw [(g _).1];exact h)
      ·exact jH n _ _ N (by rw [(g _).1];exact (g _).2.2) (by rw [(g _).1];exact h)
 |n+1,.block w s,m,N,r,h=>by
  rw [ndF];dsimp only;split
  ·exact gB8 _
  ·split
   ·exact gB8 _
   ·split<;>exact gB8 _
theorem Og (a b c:Bs):((decide (toB a=⟨#[101,108,115,101]⟩)&&decide (toB b=⟨#[105,102]⟩))&&decide (toB c=⟨#[105,102]⟩))=decide (a=jn∧b=wIf∧c=wIf):=by
 rw [show decide (toB a=⟨#[101,108,115,101]⟩)=decide (a=jn) from tb _ jn,show decide (toB b=⟨#[105,102]⟩)=decide (b=wIf) from tb _ wIf,show decide (toB c=⟨#[105,102]⟩)=decide (c=wIf) from tb _ wIf];by_cases g:a=jn<;>by_cases i:b=wIf<;>by_cases j:c=wIf<;>simp [g,i,j]
theorem Oh (a b c:Bs):((decide (toB a=⟨#[101,108,115,101]⟩)&& !decide (toB b=⟨#[100,101,102,105,110,101]⟩))&&decide (toB c=⟨#[]⟩))=decide (a=jn∧b≠tT∧c= []):=by
 rw [show decide (toB a=⟨#[101,108,115,101]⟩)=decide (a=jn) from tb _ jn,show decide (toB b=⟨#[100,101,102,105,110,101]⟩)=decide (b=tT) from tb _ tT,show decide (toB c=⟨#[]⟩)=decide (c= []) from tb _ []];by_cases g:a=jn<;>by_cases i:b=tT<;>by_cases j:c= []<;>simp [g,i,j]
theorem Oi (a c:Bs):(!decide (toB a=⟨#[101,110,100]⟩)|| !decide (toB c=⟨#[]⟩))=decide (a≠rF∨c≠ []):=by
 rw [show decide (toB a=⟨#[101,110,100]⟩)=decide (a=rF) from tb _ rF,show decide (toB c=⟨#[]⟩)=decide (c= []) from tb _ []];by_cases g:a=rF<;>by_cases i:c= []<;>simp [g,i]
theorem Ie (m:MK) (w s:Bs):(eY m w s).1.els= []:=by
 unfold eY;split
 ·rfl
 ·split
  ·rfl
  ·split<;>rfl
def MK.up (m:MK):MK:=⟨m.l,m.at_,IntKind.i64.wrap (m.deep-1),m.bad⟩
def MK.endd (m:MK) (a c:Bs):MK:=(if a≠rF∨tlw c≠ [] then m.fail 21 else m).up
theorem Kz (n:Nat) (hN:QN n) (hB:QB n):QB (n+1):=fun m w s nd st re M hTK hs hn g=>by
 obtain ⟨l,at_,dp,bd⟩:=m;obtain ⟨hl1,hl2,I⟩:=hTK;dsimp only at hl1 hl2 I hn;refine MS.enter Tryz.func110 kT kV (by rfl) (by rfl) fun E hE=> ?_
 show AK _ _ _ [.c dR] _ _;rw [dR];rw [ndF] at g;dsimp only at g;refine kW ?_;generalize IntKind.i64.wrap (dp+1)=d at g⊢;refine kC (fun hb=> ?_) fun hb=> ?_
 ·have hd:16<d:=by simpa using hb
  clear hb;rw [if_pos hd] at g;cases g;have hfl:=qg ⟨l,at_,d,bd⟩ 5;refine kW ?_;refine kQ [.s [2000000] (mnS ((⟨l,at_,d,bd⟩:MK).fail 5)) (.tup [])] ?_;refine kW ?_;exact aR ⟨⟨_,rfl,rfl⟩,⟨_,rfl,rfl⟩,trivial⟩
 have hd: ¬16<d:=by simpa using hb
 clear hb;rw [if_neg hd] at g;have hhd:=L3 ⟨l,at_,d,bd⟩ w s hs;have hha:=Dm ⟨l,at_,d,bd⟩ w s hl2;have hel:=Ie ⟨l,at_,d,bd⟩ w s;generalize eY ⟨l,at_,d,bd⟩ w s=h at g hhd hha hel;obtain ⟨⟨k,tt,x,key,nm,b1,b2⟩,⟨l1,a1,d1,e1⟩⟩:=h;obtain rfl:b2= []:=hel;obtain ⟨g1,g2,g3⟩:=hha;dsimp only at g1 g2 g3 hhd g;subst g1;rw [ND.row_eq] at hhd;rcases hnd:ndF n (.nodes []) ⟨l1,a1,d1,e1⟩ with ⟨body,stop,rest,m2⟩
 rw [hnd] at g;have j:=eR n (.nodes []) ⟨l1,a1,d1,e1⟩ g3;have hre:=jH n (.nodes []) ⟨l1,a1,d1,e1⟩ 1000000 g3 I;rw [hnd] at j hre;have hno:=hN ⟨l1,a1,d1,e1⟩ body stop rest m2 ⟨hl1,g3,I⟩ (by show 3*(l1.length-a1)+2≤n;omega) hnd;obtain ⟨f1,f2,f3,f4,_⟩:=j;have f6:=(f4 _ rfl).2;clear f4;obtain ⟨C,a2,P,R⟩:=m2;dsimp only at f1 f2 f3 f6 g hre;subst f1;have htl:=Dn rest;have htlen:=cL rest;have hwd:=Gv (tlw rest) (by omega);refine kW ?_;refine kQ [.s [2000000] (mnS ⟨C,a1,d1,e1⟩) (.agg (ndV k tt x key nm b1 []))] ?_;refine kW ?_;refine kQ [.s [2000000] (mnS ⟨C,a2,P,R⟩) (.tup [.lst .any 16 (a7 body),.str (toB stop),.str (toB rest)])] ?_;refine kW ?_;refine kQ [.v (.str (toB (tlw rest))),.v (.tup [.str (toB (nmL (tlw rest))),.str (toB (ck (tlw rest)))])] ?_;refine kW ?_;refine AK.weak (wN (row:=fun _=>0) (L:= [(0,.np 2000000 0),(1,.str (toB w)),(6,.ptr 6 0),(7,.ptr 7 0),(9,.str (toB stop)),(10,.str (toB rest)),(11,.str (toB (nmL (tlw rest)))),(12,.str (toB (ck (tlw rest))))]) (BL:= [(6,ndZ 0 ⟨#[]⟩ ⟨#[]⟩,false),(7,ndV k tt x key nm body [],false),(2000000,mnC ⟨C,a2,P,R⟩,false)]) ⟨kI,kI,kI,kI,kI,kI,kI,kI,trivial⟩ ⟨kJ,kJ,kJ,trivial⟩ rfl rfl ⟨rfl,trivial⟩) ?_;have hn2:3*(C.length-a2)+2≤n:=by omega
 have T:TK ⟨C,a2,P,R⟩:=⟨hl1,f3,I⟩
 refine kQ [] ?_;rw [Og];refine kC (fun hb=> ?_) fun hb=> ?_
 ·have U:=gB3 hb
  clear hb;rw [if_pos U] at g;have f6:=f6 (by rw [U.1];decide);rcases hbk:ndF n (.block wIf (ck (tlw rest))) ⟨C,a2,P,R⟩ with ⟨bl,st3,re3,m3⟩
  rw [hbk] at g;have j:=eR n (.block wIf (ck (tlw rest))) ⟨C,a2,P,R⟩ f3;rw [hbk] at j;have f5:=j.2.2.2.2 _ _ rfl (by omega);dsimp only at f5 g;obtain ⟨nd3,rfl⟩:=List.length_eq_one_iff.1 f5;have hBk:=hB ⟨C,a2,P,R⟩ wIf (ck (tlw rest)) nd3 st3 re3 m3 T (by unfold ck;rw [gA6];omega) (by show 3*(C.length-a2)+3≤n;omega) hbk;obtain ⟨k3,t3,x3,y3,n3,bb,ll⟩:=nd3;have er:a7 [.mk k3 t3 x3 y3 n3 bb ll]= [ndV k3 t3 x3 y3 n3 bb ll]:=(md [] k3 t3 x3 y3 n3 bb ll).symm;rw [ND.row_eq] at hBk;obtain ⟨l3,a3,d3,e3⟩:=m3;cases g;rw [ND.row_eq,er];refine kW ?_;refine kQ [.s [2000000] (mnS ⟨l3,a3,d3,e3⟩) (.agg (ndV k3 t3 x3 y3 n3 bb ll))] ?_;refine kW ?_;exact aR ⟨⟨_,rfl,rfl⟩,⟨_,rfl,rfl⟩,trivial⟩
 have U:=gB4 hb;clear hb;rw [if_neg U] at g;refine kW ?_;refine kQ [.v (.str (toB (tlw rest)))] ?_;rw [Oh];refine AK.cutK (fun i:Bs×Bs×List ND×MK=>i.2.1.length≤1000000∧nd= .mk k tt x key nm body i.2.2.1∧M=i.2.2.2.endd i.1 i.2.1) (fun i=>ar [(0,.np 2000000 0),(6,.ptr 6 0),(7,.ptr 7 0),(9,.str (toB i.1)),(10,.str (toB i.2.1))]) (fun i=>⟨ag [(6,ndZ 0 ⟨#[]⟩ ⟨#[]⟩,false),(7,ndV k tt x key nm body i.2.2.1,false),(2000000,mnC i.2.2.2,false)],fun _=>0⟩) ?_ fun i hK=> ?_
 ·refine kC (fun hb=> ?_) fun hb=> ?_
  ·have hc2:=gB3 hb
   clear hb;rw [if_pos hc2] at g;rcases J:ndF n (.nodes []) ⟨C,a2,P,R⟩ with ⟨els,p,r,m3⟩
   rw [J] at g;have hre2:=jH n (.nodes []) ⟨C,a2,P,R⟩ 1000000 f3 I;rw [J] at hre2;have hno2:=hN ⟨C,a2,P,R⟩ els p r m3 T hn2 J;obtain ⟨l3,a3,d3,e3⟩:=m3;dsimp only at g;cases g;refine kW ?_;refine kQ [.s [2000000] (mnS ⟨l3,a3,d3,e3⟩) (.tup [.lst .any 16 (a7 els),.str (toB p),.str (toB r)])] ?_;exact cE ⟨(p,r,els,⟨l3,a3,d3,e3⟩),⟨hre2,rfl,rfl⟩,wN ⟨kI,kI,kI,kI,kI,trivial⟩ ⟨kJ,kJ,kJ,trivial⟩ rfl rfl ⟨rfl,trivial⟩⟩
  ·have hc2:=gB4 hb
   clear hb;rw [if_neg hc2] at g;cases g;refine kW ?_;exact cE ⟨(stop,rest,[],⟨C,a2,P,R⟩),⟨hre,rfl,rfl⟩,wN ⟨kI,kI,kI,kI,kI,trivial⟩ ⟨kJ,kJ,kJ,trivial⟩ rfl rfl ⟨rfl,trivial⟩⟩
 clear g htl hwd;obtain ⟨sx,rx,els,⟨l3,a3,d3,e3⟩⟩:=i;obtain ⟨k1,k2,k3⟩:=hK;dsimp only at k1 k2 k3⊢;have htl:=Dn rx;have hfl:=qg ⟨l3,a3,d3,e3⟩ 21;subst k2 k3;rw [ND.row_eq];unfold MK.endd;refine kW ?_;refine kQ [.v (.str (toB (tlw rx)))] ?_;rw [Oi];refine kC (fun hb=> ?_) fun hb=> ?_
 ·have U:=gB3 hb
  clear hb;rw [if_pos U];refine kW ?_;refine kQ [.s [2000000] (mnS ((⟨l3,a3,d3,e3⟩:MK).fail 21)) (.tup [])] ?_;refine kW ?_;exact aR ⟨⟨_,rfl,rfl⟩,⟨_,rfl,rfl⟩,trivial⟩
 ·have U:=gB4 hb
  clear hb;rw [if_neg U];refine kW ?_;exact aR ⟨⟨_,rfl,rfl⟩,⟨_,rfl,rfl⟩,trivial⟩
end Go.Proofs.YtbgflifmanjpjaaGreatDoor
