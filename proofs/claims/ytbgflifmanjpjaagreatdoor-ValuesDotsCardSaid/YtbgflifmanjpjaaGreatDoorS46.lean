/- Part 46. -/
import Derived.Test.YtbgflifmanjpjaaGreatDoorS45
set_option linter.unusedSimpArgs false
set_option linter.unusedVariables false
namespace Go.Proofs.YtbgflifmanjpjaaGreatDoor
section
open Go.RowKit
def TK (m:MK):Prop:=m.l.length≤1000000∧m.at_≤m.l.length∧ ∀t∈m.l,t.s.length≤1000000
def QN (n:Nat):Prop:= ∀(m:MK) (out:List ND) (st re:Bs) (g:MK),TK m→3*(m.l.length-m.at_)+2≤n→ndF n (.nodes []) m=(out,st,re,g)→MS Tryz.prog 58 (mnS m) [.np 2000000 0] (mnS g) (.tup [.lst .any 16 (aM out),.str (toB st),.str (toB re)])
def QB (n:Nat):Prop:= ∀(m:MK) (w s:Bs) (nd:ND) (st re:Bs) (g:MK),TK m→s.length≤1000000→3*(m.l.length-m.at_)+3≤n→ndF n (.block w s) m=([nd],st,re,g)→MS Tryz.prog 110 (mnS m) [.np 2000000 0,.str (toB w),.str (toB s)] (mnS g) (.agg nd.row)
abbrev mdJ:Nat×List ND×MK×(Nat→Nat)→Fr×St:=fun x=>(au [(0,.np 2000000 0),(2,.lst (.own 46 (x.2.2.2 46)) 16 (aM x.2.1))],⟨ag [(2000000,mnC x.2.2.1,false)],x.2.2.2⟩)
abbrev ndV (k:Nat) (t:ByteArray) (x:EX) (key n:ByteArray) (b l:List ND):List AV:= [.int .i64 (k:Int),.str t]++exV x++ [.str key,.str n,.lst .any 16 (aM b),.lst .any 16 (aM l)]
theorem l7 (out:List ND) (k:Nat) (t:ByteArray) (x:EX) (key n:ByteArray) (b l:List ND):aM out++ [ndV k t x key n b l]=aM (out++ [.mk k t x key n b l]):=by rw [DO,ND.row_eq]
theorem JY (n:Nat) (hB: ∀k≤n,QB k):QN (n+1):=fun U J ST RE M hTK hn g=>by
 refine MS.enter Tryz.func58 kj kl (by rfl) (by rfl) fun E hE=> ?_
 show AK _ _ _ [.c dB] _ _;rw [dB];have hI0:TK U∧3*(U.l.length-U.at_)+2≤n+1∧n+1≤n+1∧([]:List ND).length+(U.l.length-U.at_)≤1000000∧ndF (n+1) (.nodes []) U=(J,ST,RE,M):=⟨hTK,hn,gA4 _,by have:=hTK.1;show 0+_≤_;omega,g⟩
 refine kW ?_;refine aJ mdJ (fun x=>TK x.2.2.1∧3*(x.2.2.1.l.length-x.2.2.1.at_)+2≤x.1∧x.1≤n+1∧x.2.1.length+(x.2.2.1.l.length-x.2.2.1.at_)≤1000000∧ndF x.1 (.nodes x.2.1) x.2.2.1=(J,ST,RE,M)) (fun x=>x.2.2.1.l.length-x.2.2.1.at_) (n+1,[],U,fun _=>0) hI0 (wN ⟨kI,⟨_,rfl,.one (.own _ _ _ _)⟩,trivial⟩ ⟨kJ,trivial⟩ rfl rfl ⟨rfl,trivial⟩) fun ⟨j,out,m,w⟩ hI=> ?_
 clear hI0 g hTK hn;obtain ⟨⟨hl1,hl2,P⟩,hn1,hn2,hb0,g⟩:=hI;obtain ⟨l,at_,p,r⟩:=m;dsimp only at hl1 hl2 P hn1 hn2 hb0 g;obtain ⟨j,rfl⟩: ∃n',j=n' +1:=⟨j-1,by omega⟩
 have hB:=hB j (by omega);show AK _ _ _ _ (au _) _;rw [ndF] at g;dsimp only at g;refine kW ?_;refine kC (fun hb=> ?_) fun hb=> ?_
 ·have hlt:at_<l.length:=by simpa [aZ] using hb
  clear hb;obtain ⟨t,ht⟩: ∃t,l[at_]? =some t:=⟨_,gA1 hlt⟩
  have htl:=P t (gA2 ht);rw [ht] at g;dsimp only at g;refine kW ?_;refine kP [.c (tkT t)] ?_ ?_
  ·((repeat' apply aI)<;>first|exact kD|(intro R;refine ⟨?_,kG⟩;(repeat' apply aI)<;>first|exact kD|skip)|skip)
   all_goals first|exact H0 ht|(rw [aZ];omega)|skip
  have hwr:IntKind.i64.wrap ((at_:Int)+1)=((at_+1:Nat):Int):=by rw [aG (by omega) (by omega)];omega
  refine kW ?_;refine AK.weak (wN (row:=w) (L:= [(0,.np 2000000 0),(2,.lst (.own 46 (w 46)) 16 (aM out)),(5,.ptr 5 0),(40,.bool (!t.act))]) (BL:= [(5,tkT t,false),(2000000,mnC ⟨l,at_+1,p,r⟩,false)]) ⟨kI,kI,kI,kI,trivial⟩ ⟨kJ,⟨_,rfl,.refl _,by rw [hwr];exact .refl _,.refl _,.refl _,trivial⟩,trivial⟩ rfl rfl ⟨rfl,trivial⟩) ?_
  have inv: ∀(nd:ND) (i:MK),i.l=l→at_+1≤i.at_→i.at_≤l.length→ndF j (.nodes (out++ [nd])) i=(J,ST,RE,M)→(TK i∧3*(i.l.length-i.at_)+2≤j∧j≤n+1∧(out++ [nd]).length+(i.l.length-i.at_)≤1000000∧ndF j (.nodes (out++ [nd])) i=(J,ST,RE,M))∧i.l.length-i.at_<l.length-at_:=fun nd i e1 e2 e3 e4=>by
   refine ⟨⟨⟨by rw [e1];exact hl1,by rw [e1];exact e3,fun t ht=>P t (by rw [←e1];exact ht)⟩,?_,by omega,?_,e4⟩,?_⟩
   ·rw [e1];omega
   ·rw [e1,gA5,List.length_singleton];omega
   ·rw [e1];omega
  have hpa:=fun s=>(⟨l,at_+1,p,r⟩:MK).pipe_at s ⟨MK.pipe_l _ s,by show at_+1≤l.length;omega⟩
  refine kC (fun hb=> ?_) fun hb=> ?_
  ·have C:t.act=false:=by simpa using hb
   clear hb;rw [if_pos C] at g;refine kW ?_;refine kP [] ?_ ?_
   ·((repeat' apply aI)<;>first|exact kD|(intro R;refine ⟨?_,kG⟩;(repeat' apply aI)<;>first|exact kD|skip)|skip)
    all_goals simp only [fW,List.length_nil,gA3]
    all_goals omega
   refine AK.exit rfl ?_;refine kW ?_;obtain ⟨i1,i2⟩:=inv (.mk 0 (toB t.s) EX.null ⟨#[]⟩ ⟨#[]⟩ [] []) ⟨l,at_+1,p,r⟩ rfl (gA4 _) (by show at_+1≤_;omega) g;exact AK.lp ⟨(j,out++ [(.mk 0 (toB t.s) EX.null ⟨#[]⟩ ⟨#[]⟩ [] [])],⟨l,at_+1,p,r⟩,_),i1,wN ⟨kI,⟨_,rfl,.of_eq (congrArg (AV.lst _ 16) (l7 out 0 (toB t.s) EX.null ⟨#[]⟩ ⟨#[]⟩ [] []))⟩,trivial⟩ ⟨kJ,trivial⟩ rfl rfl ⟨rfl,trivial⟩,i2⟩
  have C: ¬t.act=false:=by simpa using hb
  clear hb;rw [if_neg C] at g;have hwd:=EI t.s htl;refine kW ?_;refine kQ [.v (.tup [.str (toB (nmL t.s)),.str (toB (b7 t.s))])] ?_;refine kW ?_;rw [show decide (toB (nmL t.s)=⟨#[101,110,100]⟩)=decide (nmL t.s=qS) from tb _ qS];refine AK.cutK (fun _:Unit=>True) (fun _=>au [(0,.np 2000000 0),(2,.lst (.own 46 (w 46)) 16 (aM out)),(5,.ptr 5 0),(6,.str (toB (nmL t.s))),(7,.str (toB (b7 t.s))),(53,.str (toB (nmL t.s))),(54,.bool (decide (nmL t.s=qS∨nmL t.s=jr)))]) (fun _=>⟨ag [(5,tkT t,false),(2000000,mnC ⟨l,at_+1,p,r⟩,false)],w⟩) ?_ fun _ _=> ?_
  ·refine kC (fun hb=> ?_) fun hb=> ?_
   ·have h:=gB3 hb
    refine kW ?_;exact cE ⟨(),trivial,wN ⟨kI,kI,kI,kI,kI,kI,⟨_,rfl,.of_eq (congrArg AV.bool (by rw [decide_eq_true h,decide_eq_true (Or.inl h)]))⟩,trivial⟩ ⟨kJ,kJ,trivial⟩ rfl rfl ⟨rfl,trivial⟩⟩
   ·have h:=gB4 hb
    refine kW ?_;exact cE ⟨(),trivial,wN ⟨kI,kI,kI,kI,kI,kI,⟨_,rfl,.of_eq (congrArg AV.bool ((tb _ jr).trans (decide_eq_decide.2 ⟨Or.inr,fun k=>k.resolve_left h⟩)))⟩,trivial⟩ ⟨kJ,kJ,trivial⟩ rfl rfl ⟨rfl,trivial⟩⟩
  refine kC (fun hb=> ?_) fun hb=> ?_
  ·have h:=gB3 hb
   clear hb;rw [if_pos h] at g;cases g;refine kW ?_;exact aR ⟨⟨_,rfl,rfl⟩,⟨_,rfl,rfl⟩,trivial⟩
  have h1:=gB4 hb;clear hb;rw [if_neg h1] at g;refine kW ?_;rw [show decide (toB (nmL t.s)=⟨#[105,102]⟩)=decide (nmL t.s=wIf) from tb _ wIf];refine AK.cutK (fun _:Unit=>True) (fun _=>au [(0,.np 2000000 0),(2,.lst (.own 46 (w 46)) 16 (aM out)),(5,.ptr 5 0),(6,.str (toB (nmL t.s))),(7,.str (toB (b7 t.s))),(53,.str (toB (nmL t.s))),(60,.bool (decide (nmL t.s=wIf∨nmL t.s=rS∨nmL t.s=zT∨nmL t.s=s8)))]) (fun _=>⟨ag [(5,tkT t,false),(2000000,mnC ⟨l,at_+1,p,r⟩,false)],w⟩) ?_ fun _ _=> ?_
  ·refine kC (fun hb=> ?_) fun hb=> ?_
   ·have h:=gB3 hb
    refine kW ?_;exact cE ⟨(),trivial,wN ⟨kI,kI,kI,kI,kI,kI,⟨_,rfl,.of_eq (congrArg AV.bool (by rw [decide_eq_true h,decide_eq_true (Or.inl h)]))⟩,trivial⟩ ⟨kJ,kJ,trivial⟩ rfl rfl ⟨rfl,trivial⟩⟩
   have h:=gB4 hb;clear hb;refine kW ?_;rw [show decide (toB (nmL t.s)=⟨#[119,105,116,104]⟩)=decide (nmL t.s=rS) from tb _ rS];refine kC (fun hb=> ?_) fun hb=> ?_
   ·have k:=gB3 hb
    refine kW ?_;exact cE ⟨(),trivial,wN ⟨kI,kI,kI,kI,kI,kI,⟨_,rfl,.of_eq (congrArg AV.bool (by rw [decide_eq_true k,decide_eq_true (Or.inr (Or.inl k))]))⟩,trivial⟩ ⟨kJ,kJ,trivial⟩ rfl rfl ⟨rfl,trivial⟩⟩
   have h2:=gB4 hb;clear hb;refine kW ?_;rw [show decide (toB (nmL t.s)=⟨#[114,97,110,103,101]⟩)=decide (nmL t.s=zT) from tb _ zT];refine kC (fun hb=> ?_) fun hb=> ?_
   ·have k:=gB3 hb
    refine kW ?_;exact cE ⟨(),trivial,wN ⟨kI,kI,kI,kI,kI,kI,⟨_,rfl,.of_eq (congrArg AV.bool (by rw [decide_eq_true k,decide_eq_true (Or.inr (Or.inr (Or.inl k)))]))⟩,trivial⟩ ⟨kJ,kJ,trivial⟩ rfl rfl ⟨rfl,trivial⟩⟩
   have h3:=gB4 hb;clear hb;refine kW ?_;exact cE ⟨(),trivial,wN ⟨kI,kI,kI,kI,kI,kI,⟨_,rfl,.of_eq (congrArg AV.bool ((tb _ s8).trans (decide_eq_decide.2 ⟨fun k=>Or.inr (Or.inr (Or.inr k)),fun k=>((k.resolve_left h).resolve_left h2).resolve_left h3⟩)))⟩,trivial⟩ ⟨kJ,kJ,trivial⟩ rfl rfl ⟨rfl,trivial⟩⟩
  refine kC (fun hb=> ?_) fun hb=> ?_
  ·have h:=gB3 hb
   clear hb;rw [if_pos h] at g;rcases hbk:ndF j (.block (nmL t.s) (b7 t.s)) ⟨l,at_+1,p,r⟩ with ⟨bl,st2,re2,i⟩
   rw [hbk] at g;have T:=eu j (.block (nmL t.s) (b7 t.s)) ⟨l,at_+1,p,r⟩ (by show at_+1≤l.length;omega);rw [hbk] at T;obtain ⟨f1,f2,f3,_,f5⟩:=T;have f5:=f5 _ _ rfl (by omega);dsimp only at f1 f2 f3 f5 g;obtain ⟨nd,rfl⟩:=List.length_eq_one_iff.1 f5;have hBk:=hB ⟨l,at_+1,p,r⟩ (nmL t.s) (b7 t.s) nd st2 re2 i ⟨hl1,by show at_+1≤l.length;omega,P⟩ (by unfold b7;rw [gA6];omega) (by show 3*(l.length-(at_+1))+3≤j;omega) hbk;obtain ⟨k,tt,x,key,nm,bb,ll⟩:=nd;rw [ND.row_eq] at hBk;refine kW ?_;refine kP [.s [2000000] (mnS i) (.agg (ndV k tt x key nm bb ll))] ?_ ?_
   ·((repeat' apply aI)<;>first|exact kD|(intro R;refine ⟨?_,kG⟩;(repeat' apply aI)<;>first|exact kD|skip)|skip)
    all_goals simp only [fW,List.length_nil,gA3]
    all_goals omega
   refine AK.exit rfl ?_;refine kW ?_;obtain ⟨i1,i2⟩:=inv (.mk k tt x key nm bb ll) i f1 f2 f3 g;exact AK.lp ⟨(j,out++ [(.mk k tt x key nm bb ll)],i,_),i1,wN ⟨kI,⟨_,rfl,.of_eq (congrArg (AV.lst _ 16) (l7 out k tt x key nm bb ll))⟩,trivial⟩ ⟨kJ,trivial⟩ rfl rfl ⟨rfl,trivial⟩,i2⟩
  have h2:=gB4 hb;clear hb;rw [if_neg h2] at g;have hst:=DT t.s htl;have hsl:=vW t.s;have hpt:=pu ⟨l,at_+1,p,r⟩ t.s htl;rw [EX.row_eq] at hpt;generalize iO t.s=q2 at g hst hsl;obtain ⟨nm,rest,c⟩:=q2;dsimp only at hst hsl;have hpr:=pu ⟨l,at_+1,p,r⟩ rest (by omega);rw [EX.row_eq] at hpr;refine kW ?_;refine kQ [.v (.tup [.str (toB nm),.str (toB rest),.bool c])] ?_;refine kW ?_;cases c with
  |true=>
   dsimp only at g;have I:=hpa rest;generalize (⟨l,at_+1,p,r⟩:MK).pipe rest=q at g I hpr;obtain ⟨x,i⟩:=q;dsimp only at g I hpr;refine kCt ?_;refine kW ?_;refine kP [.s [2000000] (mnS i) (.agg (exV x))] ?_ ?_
   ·((repeat' apply aI)<;>first|exact kD|(intro R;refine ⟨?_,kG⟩;(repeat' apply aI)<;>first|exact kD|skip)|skip)
    all_goals simp only [fW,List.length_nil,gA3]
    all_goals omega
   refine AK.exit rfl ?_;refine kW ?_;obtain ⟨i1,i2⟩:=inv (.mk 5 ⟨#[]⟩ x ⟨#[]⟩ (toB nm) [] []) i I.1 I.2.1 I.2.2 g;exact AK.lp ⟨(j,out++ [(.mk 5 ⟨#[]⟩ x ⟨#[]⟩ (toB nm) [] [])],i,_),i1,wN ⟨kI,⟨_,rfl,.of_eq (congrArg (AV.lst _ 16) (l7 out 5 ⟨#[]⟩ x ⟨#[]⟩ (toB nm) [] []))⟩,trivial⟩ ⟨kJ,trivial⟩ rfl rfl ⟨rfl,trivial⟩,i2⟩
  |false=>
   dsimp only at g;have I:=hpa t.s;generalize (⟨l,at_+1,p,r⟩:MK).pipe t.s=q at g I hpt;obtain ⟨x,i⟩:=q;dsimp only at g I hpt;refine kCf ?_;refine kW ?_;refine kP [.s [2000000] (mnS i) (.agg (exV x))] ?_ ?_
   ·((repeat' apply aI)<;>first|exact kD|(intro R;refine ⟨?_,kG⟩;(repeat' apply aI)<;>first|exact kD|skip)|skip)
    all_goals simp only [fW,List.length_nil,gA3]
    all_goals omega
   refine kW ?_;obtain ⟨i1,i2⟩:=inv (.mk 1 ⟨#[]⟩ x ⟨#[]⟩ ⟨#[]⟩ [] []) i I.1 I.2.1 I.2.2 g;exact AK.lp ⟨(j,out++ [(.mk 1 ⟨#[]⟩ x ⟨#[]⟩ ⟨#[]⟩ [] [])],i,_),i1,wN ⟨kI,⟨_,rfl,.of_eq (congrArg (AV.lst _ 16) (l7 out 1 ⟨#[]⟩ x ⟨#[]⟩ ⟨#[]⟩ [] []))⟩,trivial⟩ ⟨kJ,trivial⟩ rfl rfl ⟨rfl,trivial⟩,i2⟩
 ·have hge:l.length≤at_:=by
   have: ¬at_<l.length:=by simpa [aZ] using hb
   omega
  clear hb;rw [List.getElem?_eq_none_iff.2 hge] at g;cases g;refine AK.exit rfl ?_;refine kW ?_;exact aR ⟨⟨_,rfl,rfl⟩,⟨_,rfl,rfl⟩,trivial⟩
theorem jA: ∀(n:Nat) (k:NM) (m:MK) (N:Nat),m.at_≤m.l.length→(∀t∈m.l,t.s.length≤N)→(ndF n k m).2.2.1.length≤N
 |0,k,m,N,_,_=>gB8 _
 |n+1,.nodes out,m,N,r,h=>by
  rw [ndF];cases p:m.l[m.at_]? with
  |none=>exact gB8 _
  |some t=>
   have ht:=h t (gA2 p);have i:=(gA0 p).1;dsimp only;have g:=fun s=>(⟨m.l,m.at_+1,m.deep,m.bad⟩:MK).pipe_at s ⟨MK.pipe_l _ s,i⟩
   split
   ·exact jA n _ _ N i h
   ·split
    ·show (b7 t.s).length≤N
     unfold b7;rw [gA6];omega
    ·split
     ·have j:=eu n (.block (nmL t.s) (b7 t.s)) ⟨m.l,m.at_+1,m.deep,m.bad⟩ i
      exact jA n _ _ N (by rw [j.1];exact j.2.2.1) (by rw [j.1];exact h)
     ·split
      ·exact jA n _ _ N (by rw [(g _).1];exact (g _).2.2) (by rw [(g _).1];exact h)
      ·exact jA n _ _ N (by rw [(g _).1];exact (g _).2.2) (by rw [(g _).1];exact h)
 |n+1,.block w s,m,N,r,h=>by
  rw [ndF];dsimp only;split
  ·exact gB8 _
  ·split
   ·exact gB8 _
   ·split<;>exact gB8 _
theorem LW (a b c:Bs):((decide (toB a=⟨#[101,108,115,101]⟩)&&decide (toB b=⟨#[105,102]⟩))&&decide (toB c=⟨#[105,102]⟩))=decide (a=jr∧b=wIf∧c=wIf):=by
 rw [show decide (toB a=⟨#[101,108,115,101]⟩)=decide (a=jr) from tb _ jr,show decide (toB b=⟨#[105,102]⟩)=decide (b=wIf) from tb _ wIf,show decide (toB c=⟨#[105,102]⟩)=decide (c=wIf) from tb _ wIf];by_cases g:a=jr<;>by_cases i:b=wIf<;>by_cases j:c=wIf<;>simp [g,i,j]
theorem LX (a b c:Bs):((decide (toB a=⟨#[101,108,115,101]⟩)&& !decide (toB b=⟨#[100,101,102,105,110,101]⟩))&&decide (toB c=⟨#[]⟩))=decide (a=jr∧b≠s8∧c= []):=by
 rw [show decide (toB a=⟨#[101,108,115,101]⟩)=decide (a=jr) from tb _ jr,show decide (toB b=⟨#[100,101,102,105,110,101]⟩)=decide (b=s8) from tb _ s8,show decide (toB c=⟨#[]⟩)=decide (c= []) from tb _ []];by_cases g:a=jr<;>by_cases i:b=s8<;>by_cases j:c= []<;>simp [g,i,j]
theorem LY (a c:Bs):(!decide (toB a=⟨#[101,110,100]⟩)|| !decide (toB c=⟨#[]⟩))=decide (a≠qS∨c≠ []):=by
 rw [show decide (toB a=⟨#[101,110,100]⟩)=decide (a=qS) from tb _ qS,show decide (toB c=⟨#[]⟩)=decide (c= []) from tb _ []];by_cases g:a=qS<;>by_cases i:c= []<;>simp [g,i]
theorem F0 (m:MK) (w s:Bs):(eK m w s).1.els= []:=by
 unfold eK;split
 ·rfl
 ·split
  ·rfl
  ·split<;>rfl
def MK.up (m:MK):MK:=⟨m.l,m.at_,IntKind.i64.wrap (m.deep-1),m.bad⟩
def MK.endd (m:MK) (a c:Bs):MK:=(if a≠qS∨tlw c≠ [] then m.fail 21 else m).up
theorem In (n:Nat) (hN:QN n) (hB:QB n):QB (n+1):=fun m w s nd st re M hTK hs hn g=>by
 obtain ⟨l,at_,dp,bd⟩:=m;obtain ⟨hl1,hl2,I⟩:=hTK;dsimp only at hl1 hl2 I hn;refine MS.enter Tryz.func110 km kn (by rfl) (by rfl) fun E hE=> ?_
 show AK _ _ _ [.c dC] _ _;rw [dC];rw [ndF] at g;dsimp only at g;refine kW ?_;generalize IntKind.i64.wrap (dp+1)=d at g⊢;refine kC (fun hb=> ?_) fun hb=> ?_
 ·have hd:16<d:=by simpa using hb
  clear hb;rw [if_pos hd] at g;cases g;have hfl:=pt ⟨l,at_,d,bd⟩ 5;refine kW ?_;refine kQ [.s [2000000] (mnS ((⟨l,at_,d,bd⟩:MK).fail 5)) (.tup [])] ?_;refine kW ?_;exact aR ⟨⟨_,rfl,rfl⟩,⟨_,rfl,rfl⟩,trivial⟩
 have hd: ¬16<d:=by simpa using hb
 clear hb;rw [if_neg hd] at g;have hhd:=JX ⟨l,at_,d,bd⟩ w s hs;have hha:=BO ⟨l,at_,d,bd⟩ w s hl2;have hel:=F0 ⟨l,at_,d,bd⟩ w s;generalize eK ⟨l,at_,d,bd⟩ w s=h at g hhd hha hel;obtain ⟨⟨k,tt,x,key,nm,b1,b2⟩,⟨l1,a1,d1,e1⟩⟩:=h;obtain rfl:b2= []:=hel;obtain ⟨g1,g2,g3⟩:=hha;dsimp only at g1 g2 g3 hhd g;subst g1;rw [ND.row_eq] at hhd;rcases hnd:ndF n (.nodes []) ⟨l1,a1,d1,e1⟩ with ⟨body,stop,rest,m2⟩
 rw [hnd] at g;have j:=eu n (.nodes []) ⟨l1,a1,d1,e1⟩ g3;have hre:=jA n (.nodes []) ⟨l1,a1,d1,e1⟩ 1000000 g3 I;rw [hnd] at j hre;have hno:=hN ⟨l1,a1,d1,e1⟩ body stop rest m2 ⟨hl1,g3,I⟩ (by show 3*(l1.length-a1)+2≤n;omega) hnd;obtain ⟨f1,f2,f3,f4,_⟩:=j;have f6:=(f4 _ rfl).2;clear f4;obtain ⟨C,a2,P,R⟩:=m2;dsimp only at f1 f2 f3 f6 g hre;subst f1;have htl:=BT rest;have htlen:=cA rest;have hwd:=EI (tlw rest) (by omega);refine kW ?_;refine kQ [.s [2000000] (mnS ⟨C,a1,d1,e1⟩) (.agg (ndV k tt x key nm b1 []))] ?_;refine kW ?_;refine kQ [.s [2000000] (mnS ⟨C,a2,P,R⟩) (.tup [.lst .any 16 (aM body),.str (toB stop),.str (toB rest)])] ?_;refine kW ?_;refine kQ [.v (.str (toB (tlw rest))),.v (.tup [.str (toB (nmL (tlw rest))),.str (toB (b7 (tlw rest)))])] ?_;refine kW ?_;refine AK.weak (wN (row:=fun _=>0) (L:= [(0,.np 2000000 0),(1,.str (toB w)),(6,.ptr 6 0),(7,.ptr 7 0),(9,.str (toB stop)),(10,.str (toB rest)),(11,.str (toB (nmL (tlw rest)))),(12,.str (toB (b7 (tlw rest))))]) (BL:= [(6,ndZ 0 ⟨#[]⟩ ⟨#[]⟩,false),(7,ndV k tt x key nm body [],false),(2000000,mnC ⟨C,a2,P,R⟩,false)]) ⟨kI,kI,kI,kI,kI,kI,kI,kI,trivial⟩ ⟨kJ,kJ,kJ,trivial⟩ rfl rfl ⟨rfl,trivial⟩) ?_;have hn2:3*(C.length-a2)+2≤n:=by omega
 have T:TK ⟨C,a2,P,R⟩:=⟨hl1,f3,I⟩
 refine kQ [] ?_;rw [LW];refine kC (fun hb=> ?_) fun hb=> ?_
 ·have U:=gB3 hb
  clear hb;rw [if_pos U] at g;have f6:=f6 (by rw [U.1];decide);rcases hbk:ndF n (.block wIf (b7 (tlw rest))) ⟨C,a2,P,R⟩ with ⟨bl,st3,re3,m3⟩
  rw [hbk] at g;have j:=eu n (.block wIf (b7 (tlw rest))) ⟨C,a2,P,R⟩ f3;rw [hbk] at j;have f5:=j.2.2.2.2 _ _ rfl (by omega);dsimp only at f5 g;obtain ⟨nd3,rfl⟩:=List.length_eq_one_iff.1 f5;have hBk:=hB ⟨C,a2,P,R⟩ wIf (b7 (tlw rest)) nd3 st3 re3 m3 T (by unfold b7;rw [gA6];omega) (by show 3*(C.length-a2)+3≤n;omega) hbk;obtain ⟨k3,t3,x3,y3,n3,bb,ll⟩:=nd3;have er:aM [.mk k3 t3 x3 y3 n3 bb ll]= [ndV k3 t3 x3 y3 n3 bb ll]:=(l7 [] k3 t3 x3 y3 n3 bb ll).symm;rw [ND.row_eq] at hBk;obtain ⟨l3,a3,d3,e3⟩:=m3;cases g;rw [ND.row_eq,er];refine kW ?_;refine kQ [.s [2000000] (mnS ⟨l3,a3,d3,e3⟩) (.agg (ndV k3 t3 x3 y3 n3 bb ll))] ?_;refine kW ?_;exact aR ⟨⟨_,rfl,rfl⟩,⟨_,rfl,rfl⟩,trivial⟩
 have U:=gB4 hb;clear hb;rw [if_neg U] at g;refine kW ?_;refine kQ [.v (.str (toB (tlw rest)))] ?_;rw [LX];refine AK.cutK (fun i:Bs×Bs×List ND×MK=>i.2.1.length≤1000000∧nd= .mk k tt x key nm body i.2.2.1∧M=i.2.2.2.endd i.1 i.2.1) (fun i=>au [(0,.np 2000000 0),(6,.ptr 6 0),(7,.ptr 7 0),(9,.str (toB i.1)),(10,.str (toB i.2.1))]) (fun i=>⟨ag [(6,ndZ 0 ⟨#[]⟩ ⟨#[]⟩,false),(7,ndV k tt x key nm body i.2.2.1,false),(2000000,mnC i.2.2.2,false)],fun _=>0⟩) ?_ fun i hK=> ?_
 ·refine kC (fun hb=> ?_) fun hb=> ?_
  ·have hc2:=gB3 hb
   clear hb;rw [if_pos hc2] at g;rcases J:ndF n (.nodes []) ⟨C,a2,P,R⟩ with ⟨els,p,r,m3⟩
   rw [J] at g;have hre2:=jA n (.nodes []) ⟨C,a2,P,R⟩ 1000000 f3 I;rw [J] at hre2;have hno2:=hN ⟨C,a2,P,R⟩ els p r m3 T hn2 J;obtain ⟨l3,a3,d3,e3⟩:=m3;dsimp only at g;cases g;refine kW ?_;refine kQ [.s [2000000] (mnS ⟨l3,a3,d3,e3⟩) (.tup [.lst .any 16 (aM els),.str (toB p),.str (toB r)])] ?_;exact cE ⟨(p,r,els,⟨l3,a3,d3,e3⟩),⟨hre2,rfl,rfl⟩,wN ⟨kI,kI,kI,kI,kI,trivial⟩ ⟨kJ,kJ,kJ,trivial⟩ rfl rfl ⟨rfl,trivial⟩⟩
  ·have hc2:=gB4 hb
   clear hb;rw [if_neg hc2] at g;cases g;refine kW ?_;exact cE ⟨(stop,rest,[],⟨C,a2,P,R⟩),⟨hre,rfl,rfl⟩,wN ⟨kI,kI,kI,kI,kI,trivial⟩ ⟨kJ,kJ,kJ,trivial⟩ rfl rfl ⟨rfl,trivial⟩⟩
 clear g htl hwd;obtain ⟨sx,rx,els,⟨l3,a3,d3,e3⟩⟩:=i;obtain ⟨k1,k2,k3⟩:=hK;dsimp only at k1 k2 k3⊢;have htl:=BT rx;have hfl:=pt ⟨l3,a3,d3,e3⟩ 21;subst k2 k3;rw [ND.row_eq];unfold MK.endd;refine kW ?_;refine kQ [.v (.str (toB (tlw rx)))] ?_;rw [LY];refine kC (fun hb=> ?_) fun hb=> ?_
 ·have U:=gB3 hb
  clear hb;rw [if_pos U];refine kW ?_;refine kQ [.s [2000000] (mnS ((⟨l3,a3,d3,e3⟩:MK).fail 21)) (.tup [])] ?_;refine kW ?_;exact aR ⟨⟨_,rfl,rfl⟩,⟨_,rfl,rfl⟩,trivial⟩
 ·have U:=gB4 hb
  clear hb;rw [if_neg U];refine kW ?_;exact aR ⟨⟨_,rfl,rfl⟩,⟨_,rfl,rfl⟩,trivial⟩
theorem mq: ∀n k,k≤n→QN k∧QB k
 |0,k,g=>by
  obtain rfl:k=0:=by omega
  exact ⟨fun m o s r i _ h _=>absurd h (by omega),fun m w s nd st re i _ _ h _=>absurd h (by omega)⟩
 |n+1,k,g=>by
  by_cases h:k≤n
  ·exact mq n k h
  ·obtain rfl:k=n+1:=by omega
   have hn:=mq n n (gA4 _);exact ⟨JY n fun k g=>(mq n k g).2,In n hn.1 hn.2⟩
theorem B6 {l:List Tok} {t x:Tok} (h:x∈bw l t):x∈l∨x=t:=by
 unfold bw at h;split at h
 ·exact .inl h
 ·rcases gB5 h with h|h
  ·exact .inl h
  ·exact .inr (gB1 h)
theorem F1 (i:Bs):(cv i).length≤i.length:=gB7 (EE _) (B5 i)
theorem vX (s:Bs): ∀(n a:Nat) (cut:Bool) (out l:List Tok),a≤s.length→out.length≤a→(∀t∈out,t.s.length≤s.length)→nZ s n a cut out=some l→l.length≤s.length+1∧ ∀t∈l,t.s.length≤s.length
 |0,_,_,_,_,_,_,_,h=>by cases h
 |n+1,a,cut,out,l,J,P,ht,h=>by
  unfold nZ at h;split at h
  ·cases h
   exact ⟨by omega,ht⟩
  ·split at h
   ·cases h
    refine ⟨gB7 (vQ _ _).2 (by omega),fun t g=> ?_⟩;rcases B6 g with g|rfl
    ·exact ht t g
    ·refine gB7 (qQ _ _) ?_
     rw [gA6];omega
   ·dsimp only at h
    split at h
    ·cases h
    ·rename_i e p
     have j:=vP p;have r:=(vQ out ⟨false,if rR ((s.take e).drop ((Lib.index (s.drop a) [123,123]).toNat+a+2))=true then trw (a7 cut ((s.drop a).take (Lib.index (s.drop a) [123,123]).toNat)) else a7 cut ((s.drop a).take (Lib.index (s.drop a) [123,123]).toNat),a+(((s.drop a).take (Lib.index (s.drop a) [123,123]).toNat).length-(a7 cut ((s.drop a).take (Lib.index (s.drop a) [123,123]).toNat)).length)⟩).2
     have i: ∀t∈bw out ⟨false,if rR ((s.take e).drop ((Lib.index (s.drop a) [123,123]).toNat+a+2))=true then trw (a7 cut ((s.drop a).take (Lib.index (s.drop a) [123,123]).toNat)) else a7 cut ((s.drop a).take (Lib.index (s.drop a) [123,123]).toNat),a+(((s.drop a).take (Lib.index (s.drop a) [123,123]).toNat).length-(a7 cut ((s.drop a).take (Lib.index (s.drop a) [123,123]).toNat)).length)⟩,t.s.length≤s.length:=fun t g=>by
      rcases B6 g with g|rfl
      ·exact ht t g
      ·have C:=qQ cut ((s.drop a).take (Lib.index (s.drop a) [123,123]).toNat)
       rw [gA7,gA6] at C;dsimp only;split
       ·refine gB7 (JH _) (by omega)
       ·omega
     have I:=F1 ((s.take e).drop ((Lib.index (s.drop a) [123,123]).toNat+a+2));rw [gA6,gA7] at I;refine vX s n _ _ _ l j.2 ?_ ?_ h
     ·split
      ·omega
      ·rw [gA5,List.length_singleton]
       omega
     ·intro t g
      split at g
      ·exact i t g
      ·rcases gB5 g with g|g
       ·exact i t g
       ·rw [gB1 g]
        show (cv _).length≤_;omega
theorem od (s:Bs):(cN s).1.length≤65537∧ ∀t∈(cN s).1,t.s.length≤65536:=by
 unfold cN;split
 ·exact ⟨gB8 _,fun t h=>by cases h⟩
 ·cases h:nZ s (s.length+1) 0 false [] with
  |none=>exact ⟨gB8 _,fun t h=>by cases h⟩
  |some l=>
   have g:=vX s _ _ _ _ l (gB8 _) (gA4 _) (fun t h=>by cases h) h;exact ⟨gB7 g.1 (by omega),fun t ht=>gB7 (g.2 t ht) (by omega)⟩
theorem LZ (a:Bs):(!decide (toB a=⟨#[]⟩))=decide (a≠ []):=Km a
theorem JZ (s:Bs) (hl:s.length≤140737488355328):AC Tryz.prog 25 [.str (toB s)] (.tup [.lst .any 16 (aM (bU s).1),.int .i64 (bU s).2]):=by
 have C:=Il s hl;have i:=od s;unfold bU;generalize cN s=q at C i⊢;obtain ⟨l,e⟩:=q;obtain ⟨T,f2⟩:=i;dsimp only at C T f2⊢;refine kE Tryz.func25 rb rc fun E U=> ?_
 refine kW ?_;refine kQ [.v (.tup [.lst .any 3 (ba l),.int .i64 e])] ?_;refine kW ?_;refine kC (fun hb=> ?_) fun hb=> ?_
 ·have J:e≠0:=by simpa using hb
  clear hb;rw [if_pos J];refine kW ?_;refine aR ⟨_,rfl,?_⟩;rfl
 have J:e=0:=by simpa using hb
 clear hb;subst J;rw [if_neg (show¬(0:Int)≠0 by simp)];rcases hnd:ndF (3*l.length+3) (.nodes []) ⟨l,0,0,0⟩ with ⟨out,stop,rest,⟨g,I,j,p⟩⟩
 have hM:=((mq _ _ (gA4 _)).1 ⟨l,0,0,0⟩ out stop rest ⟨g,I,j,p⟩ ⟨by show l.length≤_;omega,gB8 _,fun t ht=>gB7 (f2 t ht) (by omega)⟩ (by show 3*(l.length-0)+2≤3*l.length+3;omega) hnd).ren (swY 2000000 20) aV (bm (by rfl));have P:=(pt ⟨g,I,j,p⟩ 21).ren (swY 2000000 20) aV (bm (by rfl));dsimp only;refine kW ?_;refine kQ [.s [20] [(20,mnC ⟨g,I,j,p⟩)] (.tup [.lst .any 16 (aM out),.str (toB stop),.str (toB rest)])] ?_;refine kW ?_;rw [LZ];by_cases r:p=0
 ·subst r
  refine kC (fun hb=> ?_) fun hb=> ?_
  ·have R:stop≠ []:=gB3 hb
   clear hb;rw [if_pos ⟨R,rfl⟩];refine kW ?_;refine kQ [.s [20] [(20,mnC ⟨g,g.length,j,21⟩)] (.tup [])] ?_;refine kW ?_;refine kCt ?_;refine kW ?_;refine aR ⟨_,rfl,?_⟩;rfl
  ·have R: ¬stop≠ []:=gB4 hb
   clear hb;rw [if_neg (fun h=>R h.1),if_neg (show¬(0:Int)≠0 by simp)];refine kW ?_;refine kCf ?_;refine kW ?_;refine aR ⟨_,rfl,?_⟩;rfl
 ·have e:(⟨g,I,j,p⟩:MK).fail 21=⟨g,g.length,j,p⟩:=by unfold MK.fail;rw [if_neg r]
  rw [e] at P;rw [if_neg (fun h=>r h.2),if_pos r];refine kC (fun hb=> ?_) fun hb=> ?_
  ·clear hb
   refine kW ?_;refine kQ [.s [20] [(20,mnC ⟨g,g.length,j,p⟩)] (.tup [])] ?_;refine kW ?_;refine kCt ?_ (by rw [decide_eq_false r];rfl);refine kW ?_;refine aR ⟨_,rfl,?_⟩;rfl
  ·clear hb
   refine kW ?_;refine kCt ?_ (by rw [decide_eq_false r];rfl);refine kW ?_;refine aR ⟨_,rfl,?_⟩;rfl
end
section
open Go.RowKit Go.MapKept
open Go.ChangeMaps (setBlock)
section
variable {P:Program} {mu:List Nat} {E:Env} {G G' :Gho} {fr fr' :Fr} {st st' :St} {a a0:Act} {w w0:World} {Q:Exit→Fr→St→Prop} {k:List AItem}
def MQ0 (P:Program) (E:Env) (Q:Exit→Fr→St→Prop) (k:List AItem) (g:Nat):Exit→Fr→St→Prop
 | .exit i=>fun f s=>i=g∧AK P E Q k f s
 |_=>fun _ _=>False
theorem AK.mrange0 {l1 pre post:List GI} {b:ACode} {T U d1:Nat} {t:TypeId} {x0 x1:Opd} (rs:List RS) {rs' :List RS} {fr1:Fr} {st1:St} {p1:Prop} (J:Nat→Fr×St) (hp1:p1)
  (h0: ∀r,Weak (az fr1 U (itA r)) st1 (J r).1 (J r).2) (hJ: ∀r,x1.ev (J r).1=some (itA r))
  (hend: ∀r,∃rs rs' f2 s2 p2,iU P post rs (az (J r).1 d1 (.tup [.bool false])) (J r).2=some (rs',f2,s2,p2)∧p2∧AK P E (MQ0 P E Q k T) [.c b] f2 s2)
  (hl1:pq l1=some (pre,t,U,x0):=by rfl) (hs:iU P pre rs fr st=some (rs',fr1,st1,p1):=by rfl) (hx0:x0.ev fr1=some (.raw (.map none)):=by rfl):
  AK P E Q (.c (.seq (.reg l1) (.block T (.loop (.seq (.reg (⟨none,.nxt d1 x1⟩::post)) b))))::k) fr st:=by
 intro hd mu c G ac w hc _ hC;simp only [eh,gA9] at hd;obtain ⟨hd1,hd2,hdb⟩:=hd;obtain ⟨y,z,rfl,hy,hz⟩:=kg hc;have p:=kh hl1;obtain ⟨id1,ops1,rfl,hops1⟩:=g7 hy (by rw [p];simp [GI.iter]);obtain ⟨z1,rfl,hz1⟩:=pp hz;obtain ⟨z2,rfl,hz2⟩:=rU hz1;obtain ⟨v,cb,rfl,hv,hcb⟩:=kg hz2;obtain ⟨id2,ops2,rfl,hops2⟩:=g7 hv rfl;have I:=mW hops1;have R:=mW hops2;obtain ⟨S1,hS1,q1,hst1,hpq1⟩:=bI hs;have hsz1:ops1.size=S1.length+1:=by rw [←I.1,p,←hS1];simp
 refine wp_seq (wp_region ?_);rw [List.range_eq_range',hsz1,List.range'_1_concat];refine tu (tail:= [0+S1.length]) I hd1 (fun G1 a1 w1 hC1=> ?_) (l:=S1) (k:=0) (fun j x hx=>by rw [p,Nat.zero_add,←hS1,gC1 (gA0 hx).1];exact hx) (by omega) hst1 (hpq1 hp1) hC;have C:l1[0+S1.length]? =some ⟨none,.rng t U x0⟩:=by rw [p,←hS1,Nat.zero_add,gC2 (by simp)];simp
 refine fY I C fun gs o ho=> ?_
 obtain ⟨xo,e1,e2,e3,kt,et,hu⟩:=H4 ho;have hval:a1.eval xo= .map none:=tq (hC1.ev e3 hx0).1;have hrun:=run_range_nilMap (P:=P) w1 t kt et hu
 refine js (v:= .pointer (some ⟨w1.heap.size,0,none⟩)) (w' :=w1.alloc (.mapIter none 0 #[] 0)) (by
  unfold execOp;rw [e1];simp only [hval,Sem.run_bind,hrun,Result.andThen_ok,Sem.run_pure]) e2 ?_
 have hdn0:U<E.n:=bX hd1 C U rfl
 have hC2:Conc E G1 (az fr1 U (itA w1.heap.size)) st1 (a1.put (some U) (.pointer (some ⟨w1.heap.size,0,none⟩))) (w1.alloc (.mapIter none 0 #[] 0)):=
  (hC1.same ((Below.refl w1.heap.size w1).alloc (gA4 _) _)).put hdn0 ⟨.raw _ rfl,trivial⟩
 obtain ⟨G4,hC4⟩:=h0 w1.heap.size E G1 _ _ hC2;show (Code.block T _).wp P _ _ _;refine wp_block (wp_loop (fun a w=>a=a1.put (some U) (.pointer (some ⟨w1.heap.size,0,none⟩))∧w=w1.alloc (.mapIter none 0 #[] 0)) (fun _ _=>0) ⟨rfl,rfl⟩ ?_);rintro a5 w5 ⟨rfl,rfl⟩;refine wp_seq (wp_region ?_);have hsz2:ops2.size=post.length+1:=by rw [←R.1];simp
 rw [List.range_eq_range',hsz2,List.range'_succ];refine fY R (j:=0) rfl fun gs o ho=> ?_
 obtain ⟨xo2,e4,e5,e6⟩:=H5 ho;have hv2:=tq (hC4.ev e6 (hJ w1.heap.size)).1;have hdn1:d1<E.n:=bX hd2 (k:=0) rfl d1 rfl;have hrn:=run_next_nilMap (P:=P) w1 o.type 0 0 #[];obtain ⟨rs2,rs2',f2,s2,p2,ha,hp2,hK⟩:=hend w1.heap.size;obtain ⟨S2,hS2,q2,hst2,hpq2⟩:=bI ha
 refine js (v:= .tuple #[.bool false]) (w' :=w1.alloc (.mapIter none 0 #[] 0)) (by
  unfold execOp;rw [e4];simp only [hv2,Sem.run_bind,hrn,Result.andThen_ok,Sem.run_pure]) e5 ?_
 have hC6:=hC4.put (v:= .tuple #[.bool false]) (x:= .tup [.bool false]) hdn1 ⟨[.bool false],rfl,rfl,fun j u y hu hy=>by
  rcases j with _|j
  ·simp at hu hy;subst hu hy;exact .of (.bool _)
  ·simp at hu⟩
 have hl:post.length=S2.length:=by rw [←hS2];simp
 rw [hl];refine me R hd2 (fun G' a' w' hc=> ?_) (l:=S2) (k:=1) (fun j=>by rw [hS2,Nat.add_comm,List.getElem?_cons_succ]) (by omega) hst2 (hpq2 hp2) hC6;show cb.wp P _ a' w';refine wp_mono (hK hdb mu cb G' a' w' hcb hdb hc) fun e a9 w9 ⟨G9,f9,s9,hC9,hQ9⟩=> ?_
 have g:MQ0 P E Q k T e f9 s9:=by cases e<;>exact hQ9
 cases e with
 |exit i=>
  obtain ⟨rfl,hq⟩:=g;simp only [Exit.then,Exit.inBlock];rw [if_pos trivial];exact ⟨_,_,_,hC9,hq⟩
 |normal=>exact (show False from g).elim
 |goto l=>exact (show False from g).elim
 |ret=>exact (show False from g).elim
 |panic ch=>exact (show False from g).elim
 |outgrown=>exact (show False from g).elim
end
end
section
set_option maxRecDepth 100000
def bz:ACode:=
 .seq (gQ [⟨gO,.mov 4 (.k (.raw (Value.map none)))⟩,gJ 5 0]) (.seq (gQ [⟨gO,.mop (MO.new 43) (some 13) []⟩,gM 6 13]) (.seq (.seq (gQ [gM 14 0,⟨gO,.rng 43 15 (.s 14)⟩]) (.block 0 (.loop (.seq (gQ [⟨gO,.nxt 16 (.s 15)⟩,gX 17 0 16]) (.seq (.cond (.s 17) .skip (.exit 0)) (.block 1 (.seq (gQ [⟨gO,.ent 18 (.s 15)⟩,gX 19 0 18,gX 20 1 18,gM 7 19,gM 8 20]) (.reg [gM 21 6,gM 22 7,gM 23 8,⟨gO,.mop (MO.set 43) none [.s 21,.s 22,.s 23]⟩])))))))) (.seq (.seq (gQ [gM 24 1,gH 25 false 24,gJ 26 0]) (.block 2 (.loop (.seq (gQ [gV 27 .lss 26 25]) (.seq (.cond (.s 27) .skip (.exit 2)) (.seq (.block 3 (.seq (gQ [gE 28 16 24 26,gA 29 16 28,⟨gO,.alloc 10 [.int .i64 0,.str ⟨#[]⟩,.int .i64 0,.int .i64 0,.bool false,.int .i64 0,.str ⟨#[]⟩,.lst .nil 6 [],.lst .nil 7 [],.str ⟨#[]⟩,.lst .nil 1 [],.lst .nil 10 [],.str ⟨#[]⟩,.str ⟨#[]⟩,.lst .nil 16 [],.lst .nil 16 []]⟩,gT 16 10 29]) (.seq (.seq (gQ [gF 30 0 10,gL 31 30,gU 32 .neq 31 6]) (.cond (.s 32) (.exit 3) .skip)) (.seq (.seq (gQ [gM 34 6,gF 35 13 10,gL 36 35,⟨gO,.mop (MO.get 43 true) (some 37) [.s 34,.s 36]⟩,gM 33 37,gX 38 0 33,gX 39 1 33,gM 11 38,gM 12 39]) (.seq (gQ [gM 40 12]) (.cond (.s 40) (.seq (gQ [⟨gO,.mov 4 (.k (.raw (Value.map none)))⟩,gJ 5 13]) .ret) .skip))) (.reg [gM 41 6,gF 42 13 10,gL 43 42,gF 44 14 10,gL 45 44,⟨gO,.mop (MO.set 43) none [.s 41,.s 43,.s 45]⟩]))))) (.reg [gU 46 .add 26 1,gM 26 46]))))))) (.seq (gQ [gM 47 6,gM 4 47,gJ 5 0]) .ret))))
def ez:AFn:=⟨2,48,bz,[.tmp 4,.tmp 5]⟩
theorem eA:ax Tryz.prog mU0 Tryz.f26=some ez:=kk
theorem eB:aa Tryz.prog 26=true:=kk
end
end Go.Proofs.YtbgflifmanjpjaaGreatDoor
