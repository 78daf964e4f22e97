/- Part 42. -/
import Derived.Test.YtbgflifmanjpjaaGreatDoorS41
set_option linter.unusedSimpArgs false
set_option linter.unusedVariables false
namespace Go.Proofs.YtbgflifmanjpjaaGreatDoor
section
open Go.RowKit
theorem Weak.trn {fr1 fr2 g:Fr} {st1 st2 i:St} (j:Weak fr1 st1 fr2 st2) (p:Weak fr2 st2 g i):Weak fr1 st1 g i:=fun E G a w h=>(j E G a w h).elim fun G' r=>p E G' a w r
theorem EX.row_eq (x:EX):x.row=exH x.kind x.v x.name x.steps++ [.lst .any 10 (aO x.args)]:=by
 obtain ⟨k,v,n,s,a⟩:=x;rfl
abbrev exQ (nm:ByteArray):List AV:= [.int .i64 3,.int .i64 0,.bool false,.int .i64 0,.str ⟨#[]⟩,.lst .nil 6 [],.lst .nil 7 [],.str nm,.lst .nil 1 []]
abbrev exV (x:EX):List AV:=exH x.kind x.v x.name x.steps++ [.lst .any 10 (aO x.args)]
def exB (l:List EX):FX→List (Nat×List AV×Bool)
 |none=> []
 |some (false,i)=> [(1000001,fX l i.2,false)]
 |some (true,i)=> [(1000002,fX l i.2,false)]
def cmJ (nm:ByteArray):Nat×List EX×RD×FX→Fr×St
 |(_,out,r,f)=>(ar [(0,.np 2000000 0),(2,.ptr 2 0),(6,.ptr 6 0)],⟨ag ([(2,exZ,false),(6,exQ nm++ [exA 1000001 1000002 out f],false),(2000000,rdC r,false)]++exB out f),fun _=>0⟩)
def cmK (g:Nat) (nm:ByteArray) (out:List EX) (L:Nat) (q:EX×Bool×RD) (i:Bool×EX×RD):Prop:=(i.1=true→exF g (.args nm (out++ [i.2.1])) i.2.2=q∧i.2.2.s.length<L)∧(i.1=false→q=(EX.mk 3 V.null nm [] out,true,i.2.2))
theorem Fj {w:Bs} (h:(!decide (toB w=⟨#[]⟩))=false):w= []:=by
 have h:toB w=⟨#[]⟩:=by simpa using h
 exact cK.1 (h.trans (show (⟨#[]⟩:ByteArray)=toB [] from rfl))
set_option maxRecDepth 20000 in
theorem Ib (n:Nat) (ho: ∀k≤n,PO k):PC (n+1):=fun ⟨s,dp,bd⟩ X OK R hl hn p=>by
 have hl:s.length≤1000000:=hl;have hn:4*s.length+2≤n+1:=hn;refine MSX.enterE Tryz.func245 g5 g6 (by rfl) (by rfl) fun E hE=> ?_
 show AK _ _ _ [.c cB] _ _;rw [cB];rw [exF] at p;rcases hy:exF n .operand ⟨s,dp,bd⟩ with ⟨y,by_,T⟩
 rw [hy] at p;have hft:=(bN n .operand ⟨s,dp,bd⟩).1;rw [hy] at hft;have hft:y.args.length+T.s.length≤0+s.length:=hft;have hM:=(ho n (gA4 _)).ren ⟨s,dp,bd⟩ y by_ T hl (by show 4*s.length+1≤n;omega) hy;have hM0:=(ho n (gA4 _)) ⟨s,dp,bd⟩ y by_ T hl (by show 4*s.length+1≤n;omega) hy;refine kW ?_;cases by_ with
 |true=>
  cases p;refine AK.regs ?_;refine SK.run 1 [] trivial ?_;refine SK.callX (lv X.args) (fun f=>rdS R++exS 1000001 1000002 X.args f) (fun f=> .tup [exG 1000001 1000002 X f,.bool true]) [2000000] hM0 (fun f hf=>LX _ X true f (by rcases f with _|⟨_|_,c,m⟩<;>rfl)) fun f hf=> ?_
  rcases f with _|⟨_|_,cap,m⟩
  all_goals
   refine SK.all [] trivial ?_;refine kW ?_;refine kCt ?_;refine kW ?_
   first
    |exact aR ⟨none,hf,⟨_,rfl,rfl⟩,⟨_,rfl,rfl⟩,trivial⟩
    |exact aR ⟨some (false,cap,m),hf,⟨_,rfl,rfl⟩,⟨_,rfl,rfl⟩,⟨_,rfl,(al _).told m⟩,trivial⟩
    |exact aR ⟨some (true,cap,m),hf,⟨_,rfl,rfl⟩,⟨_,rfl,rfl⟩,⟨_,rfl,(al _).told m⟩,trivial⟩
 |false=>
  have p:(if nmL T.s= [] then (EX.null,true,T.fail 20) else exF n (.args (toB (nmL T.s)) []) (T.to (T.s.drop (nmL T.s).length)))=(X,OK,R):=p;refine AK.cutK (fun _:Unit=>True) (fun _=>ar [(0,.np 2000000 0),(2,.ptr 2 0),(4,.bool false)]) (fun _=>⟨ag [(2,exZ,false),(2000000,rdC T,false)],fun _=>0⟩) ?_ fun _ _=> ?_
  ·refine AK.regs ?_
   refine SK.run 1 [] trivial ?_;refine SK.callX (lv y.args) (fun f=>rdS T++exS 1000003 1000004 y.args f) (fun f=> .tup [exG 1000003 1000004 y f,.bool false]) [2000000] hM (fun f hf=>uF _ y false f (by rcases f with _|⟨_|_,c,m⟩<;>rfl)) fun f hf=> ?_
   rcases f with _|⟨_|_,cap,m⟩
   all_goals
    refine SK.all [] trivial ?_;exact cE ⟨(),trivial,wN ⟨kI,kI,kI,trivial⟩ ⟨kJ,kJ,trivial⟩ rfl rfl ⟨rfl,trivial⟩⟩
  clear hM hM0 hy;obtain ⟨s1,d1,b1⟩:=T;have hft:y.args.length+s1.length≤0+s.length:=hft;have hnm:=gk ⟨s1,d1,b1⟩ (by show s1.length≤_;omega);simp only [RD.to,RD.fail] at p;refine kW ?_;refine kCf ?_;refine kW ?_;refine kQ [.s [2000000] (rdS ⟨s1.drop (nmL s1).length,d1,b1⟩) (.str (toB (nmL s1)))] ?_;refine kW ?_;rw [bH];have hnl:=gj s1;have P:=iy (s:=s1);generalize nmL s1=w at p hnl P⊢;clear hnm;refine kC (fun hb=> ?_) fun hb=> ?_
  ·have hz:w= []:=by simpa using hb
   clear hb;rw [if_pos hz] at p;cases p;have hfl:=iz ⟨s1.drop w.length,d1,b1⟩ 20;refine kW ?_;refine kQ [.s [2000000] (rdS ⟨[],d1,if b1=0 then 20 else b1⟩) (exN EX.null)] ?_;exact aR ⟨none,rfl,⟨_,rfl,rfl⟩,⟨_,rfl,rfl⟩,trivial⟩
  have hz: ¬w= []:=by simpa using hb
  clear hb;have P:=P hz;rw [if_neg hz] at p;refine kW ?_;refine aJ (cmJ (toB w)) (fun x=>lv x.2.1 x.2.2.2∧x.2.1.length+x.2.2.1.s.length≤1000000∧4*x.2.2.1.s.length+2≤x.1∧x.1≤n∧exF x.1 (.args (toB w) x.2.1) x.2.2.1=(X,OK,R)) (fun x=>x.2.2.1.s.length) (n,[],⟨s1.drop w.length,d1,b1⟩,none) ⟨rfl,?_,?_,gA4 _,p⟩ (wN ⟨kI,kI,kI,trivial⟩ ⟨kJ,kJ,kJ,trivial⟩ rfl rfl ⟨rfl,trivial⟩) fun ⟨n1,out,r,f⟩ hI=> ?_
  ·show 0+(s1.drop w.length).length≤1000000
   rw [gA6];omega
  ·show 4*(s1.drop w.length).length+2≤n
   rw [gA6];omega
  clear p hft hnl P hz hn;obtain ⟨hok,hb0,hn1,hn2,p⟩:=hI;dsimp only at hok hb0 hn1 hn2 p;obtain ⟨n1,rfl⟩: ∃n',n1=n' +1:=⟨n1-1,by omega⟩
  show AK _ _ _ _ (ar _) _;rw [exF] at p;rcases hy:exF n1 .operand r with ⟨x,b,T⟩
  rw [hy] at p;have hft:=bN n1 .operand r;rw [hy] at hft;obtain ⟨I,U⟩:=hft;have I:x.args.length+T.s.length≤0+r.s.length:=I;have U:b=true→T.s.length<r.s.length:=U rfl;have hM:=(ho n1 (by omega)).ren r x b T (by omega) (by omega) hy;rcases f with _|⟨_|_,cap,m⟩
  ·refine kW ?_
   refine AK.cutK (fun _:Unit=>True) (fun _=>ar [(0,.np 2000000 0),(2,.ptr 2 0),(6,.ptr 6 0),(7,.ptr 7 0),(8,.bool b)]) (fun _=>⟨ag ([(2,exZ,false),(6,exQ (toB w)++ [exA 1000001 1000002 out none],false),(7,exV x,false),(2000000,rdC T,false)]++exB out none),fun _=>0⟩) ?_ fun _ _=> ?_
   ·refine AK.regs ?_
    refine SK.run 1 [] trivial ?_;refine SK.callX (lv x.args) (fun f=>rdS T++exS 1000003 1000004 x.args f) (fun f=> .tup [exG 1000003 1000004 x f,.bool b]) [2000000] hM (fun f hf=>uF _ x b f (by rcases f with _|⟨_|_,c,m⟩<;>rfl)) fun g hg=> ?_
    rcases g with _|⟨_|_,c',m'⟩
    ·refine SK.all [] trivial ?_
     exact cE ⟨(),trivial,wN ⟨kI,kI,kI,kI,kI,trivial⟩ ⟨kJ,kJ,⟨_,rfl,.refl _,.refl _,.refl _,.refl _,.refl _,.refl _,.refl _,.refl _,.refl _,by rw [show x.args= [] from hg];exact .any _ _ _,trivial⟩,kJ,trivial⟩ rfl rfl ⟨rfl,trivial⟩⟩
    ·refine SK.all [] trivial ?_
     exact cE ⟨(),trivial,Weak.trn (Weak.fz (id:=1000003) rfl rfl) (wN ⟨kI,kI,kI,kI,kI,trivial⟩ ⟨kJ,kJ,⟨_,rfl,.refl _,.refl _,.refl _,.refl _,.refl _,.refl _,.refl _,.refl _,.refl _,iO _ 1000003 x.args c' m' rfl rfl,trivial⟩,kJ,trivial⟩ rfl rfl ⟨rfl,trivial⟩)⟩
    ·refine SK.all [] trivial ?_
     exact cE ⟨(),trivial,Weak.trn (Weak.fz (id:=1000004) rfl rfl) (wN ⟨kI,kI,kI,kI,kI,trivial⟩ ⟨kJ,kJ,⟨_,rfl,.refl _,.refl _,.refl _,.refl _,.refl _,.refl _,.refl _,.refl _,.refl _,iO _ 1000004 x.args c' m' rfl rfl,trivial⟩,kJ,trivial⟩ rfl rfl ⟨rfl,trivial⟩)⟩
   clear hM hy;refine kW ?_;refine AK.cutK (fun i:Bool×EX×RD=>cmK n1 (toB w) out r.s.length (X,OK,R) i) (fun i=>ar [(0,.np 2000000 0),(2,.ptr 2 0),(6,.ptr 6 0),(7,.ptr 7 0),(8,.bool i.1)]) (fun i=>⟨ag ([(2,exZ,false),(6,exQ (toB w)++ [exA 1000001 1000002 out none],false),(7,exV i.2.1,false),(2000000,rdC i.2.2,false)]++exB out none),fun _=>0⟩) ?_ fun ⟨b2,C,r2⟩ hK=> ?_
   ·cases b with
    |true=>
     refine kCf ?_ (by rfl);refine kW ?_;exact cE ⟨(true,x,T),⟨fun _=>⟨p,U rfl⟩,fun h=>by cases h⟩,wN ⟨kI,kI,kI,kI,kI,trivial⟩ ⟨kJ,kJ,kJ,kJ,trivial⟩ rfl rfl ⟨rfl,trivial⟩⟩
    |false=>
     obtain ⟨j,d2,b2⟩:=T;have I:x.args.length+j.length≤0+r.s.length:=I;have hnm:=gk ⟨j,d2,b2⟩ (by show j.length≤_;omega);have p:(if nmL j= [] then (EX.mk 3 V.null (toB w) [] out,true,⟨j,d2,b2⟩) else exF n1 (.args (toB w) (out++ [EX.mk 3 V.null (toB (nmL j)) [] []])) ⟨j.drop (nmL j).length,d2,b2⟩)=(X,OK,R):=p;refine kCt ?_ (by rfl);refine kW ?_;refine kQ [.s [2000000] (rdS ⟨j.drop (nmL j).length,d2,b2⟩) (.str (toB (nmL j)))] ?_;refine kW ?_;have hnl:=gj j;have P:=iy (s:=j);generalize nmL j=w2 at p hnl P⊢;clear hnm;refine kC (fun hb=> ?_) fun hb=> ?_
     ·have hz: ¬w2= []:=by intro h;rw [h] at hb;cases hb
      clear hb;rw [if_neg hz] at p;have P:=P hz;refine kW ?_;exact cE ⟨(true,.mk 3 V.null (toB w2) [] [],⟨j.drop w2.length,d2,b2⟩),⟨fun _=>⟨p,by show (j.drop w2.length).length<r.s.length;rw [gA6];omega⟩,fun h=>by cases h⟩,wN ⟨kI,kI,kI,kI,kI,trivial⟩ ⟨kJ,kJ,⟨_,rfl,.refl _,.refl _,.refl _,.refl _,.refl _,.any _ _ _,.any _ _ _,.refl _,.any _ _ _,.any _ _ _,trivial⟩,kJ,trivial⟩ rfl rfl ⟨rfl,trivial⟩⟩
     ·have hz:w2= []:=Fj hb
      clear hb;rw [if_pos hz] at p;refine kW ?_;exact cE ⟨(false,x,⟨j,d2,b2⟩),⟨fun h=>(by cases h),fun _=>p.symm⟩,wN ⟨kI,kI,kI,kI,kI,trivial⟩ ⟨kJ,kJ,kJ,kJ,trivial⟩ rfl rfl ⟨rfl,trivial⟩⟩
   clear p I U;dsimp only;refine kW ?_;obtain ⟨hK1,J⟩:=hK;dsimp only at hK1 J;cases b2 with
   |false=>
    have J:=J rfl;cases J;refine kCt ?_ (by rfl);refine kW ?_;exact aR ⟨none,hok,⟨_,rfl,rfl⟩,⟨_,rfl,rfl⟩,trivial⟩
   |true=>
    obtain ⟨p,hlt⟩:=hK1 rfl;clear hK1 J;refine kCf ?_ (by rfl);refine kW ?_;refine AK.cutK (fun i:Nat×Nat=>exI (out++ [C]) i) (fun i=>ar [(0,.np 2000000 0),(2,.ptr 2 0),(6,.ptr 6 0)]) (fun i=>⟨ag [(2,exZ,false),(6,exQ (toB w)++ [.sli 1000001 10 (out++ [C]).length i.1],false),(2000000,rdC r2,false),(1000001,fX (out++ [C]) i.2,false)],fun _=>0⟩) ?_ fun i hi=> ?_
    ·have hsn:aO out++ [exV C]=aO (out++ [C]):=by rw [fi,EX.row_eq]
     have hz:out= []:=hok;rw [hz] at hsn⊢;refine kP [.m [] []] ?_ ?_
     ·((repeat' apply aI)<;>first|exact kD|(intro hgd;refine ⟨?_,kG⟩;(repeat' apply aI)<;>first|exact kD|skip)|skip)
      all_goals first|(show 0<1;omega)|(show 1*_≤140737488355328;omega)|(show 1≤140737488355328;omega)|skip
     refine cO 54 54 1000001 rfl (by omega) rfl fun cap m h1 h2=> ?_
     have hln:([]++ [exV C]).length=([]++ [C]).length:=by rfl
     refine ⟨(cap,m),⟨?_,?_⟩,wN ⟨kI,kI,kI,trivial⟩ ⟨kJ,⟨_,rfl,.refl _,.refl _,.refl _,.refl _,.refl _,.refl _,.refl _,.refl _,.refl _,?_,trivial⟩,kJ,⟨_,rfl,aJz ?_⟩,trivial⟩ rfl rfl ⟨rfl,(al _).noFrs _,trivial⟩⟩
     ·rw [←hln];exact h1
     ·show ((aO ([]++ [C])).flatten++_).length=_
      rw [←hsn];exact h2
     ·show AVle1 _ (AV.sli 1000001 10 ([]++ [exV C]).length cap) _
      rw [hln];exact .refl _
     ·show ([]++ [exV C]).flatten++_=_
      rw [show []++ [exV C]=aO ([]++ [C]) from hsn]
    obtain ⟨cap',m'⟩:=i;refine kW ?_;exact AK.lp ⟨(n1,out++ [C],r2,some (false,cap',m')),⟨hi,by dsimp only;rw [gA5,List.length_singleton];omega,by dsimp only;omega,by dsimp only;omega,p⟩,wN ⟨kI,kI,kI,trivial⟩ ⟨kJ,kJ,kJ,kJ,trivial⟩ rfl rfl ⟨rfl,(al _).noFrs _,trivial⟩,hlt⟩
  ·refine kW ?_
   refine AK.cutK (fun _:Unit=>True) (fun _=>ar [(0,.np 2000000 0),(2,.ptr 2 0),(6,.ptr 6 0),(7,.ptr 7 0),(8,.bool b)]) (fun _=>⟨ag ([(2,exZ,false),(6,exQ (toB w)++ [exA 1000001 1000002 out (some (false,cap,m))],false),(7,exV x,false),(2000000,rdC T,false)]++exB out (some (false,cap,m))),fun _=>0⟩) ?_ fun _ _=> ?_
   ·refine AK.regs ?_
    refine SK.run 1 [] trivial ?_;refine SK.callX (lv x.args) (fun f=>rdS T++exS 1000003 1000004 x.args f) (fun f=> .tup [exG 1000003 1000004 x f,.bool b]) [2000000] hM (fun f hf=>uF _ x b f (by rcases f with _|⟨_|_,c,m⟩<;>rfl)) fun g hg=> ?_
    rcases g with _|⟨_|_,c',m'⟩
    ·refine SK.all [] trivial ?_
     exact cE ⟨(),trivial,wN ⟨kI,kI,kI,kI,kI,trivial⟩ ⟨kJ,kJ,⟨_,rfl,.refl _,.refl _,.refl _,.refl _,.refl _,.refl _,.refl _,.refl _,.refl _,by rw [show x.args= [] from hg];exact .any _ _ _,trivial⟩,kJ,kJ,trivial⟩ rfl rfl ⟨rfl,(al _).noFrs _,trivial⟩⟩
    ·refine SK.all [] trivial ?_
     exact cE ⟨(),trivial,Weak.trn (Weak.fz (id:=1000003) rfl rfl) (wN ⟨kI,kI,kI,kI,kI,trivial⟩ ⟨kJ,kJ,⟨_,rfl,.refl _,.refl _,.refl _,.refl _,.refl _,.refl _,.refl _,.refl _,.refl _,iO _ 1000003 x.args c' m' rfl rfl,trivial⟩,kJ,⟨_,rfl,aJz ((al _).clr _ _)⟩,trivial⟩ rfl rfl ⟨rfl,(al _).noFrs _,trivial⟩)⟩
    ·refine SK.all [] trivial ?_
     exact cE ⟨(),trivial,Weak.trn (Weak.fz (id:=1000004) rfl rfl) (wN ⟨kI,kI,kI,kI,kI,trivial⟩ ⟨kJ,kJ,⟨_,rfl,.refl _,.refl _,.refl _,.refl _,.refl _,.refl _,.refl _,.refl _,.refl _,iO _ 1000004 x.args c' m' rfl rfl,trivial⟩,kJ,⟨_,rfl,aJz ((al _).clr _ _)⟩,trivial⟩ rfl rfl ⟨rfl,(al _).noFrs _,trivial⟩)⟩
   clear hM hy;refine kW ?_;refine AK.cutK (fun i:Bool×EX×RD=>cmK n1 (toB w) out r.s.length (X,OK,R) i) (fun i=>ar [(0,.np 2000000 0),(2,.ptr 2 0),(6,.ptr 6 0),(7,.ptr 7 0),(8,.bool i.1)]) (fun i=>⟨ag ([(2,exZ,false),(6,exQ (toB w)++ [exA 1000001 1000002 out (some (false,cap,m))],false),(7,exV i.2.1,false),(2000000,rdC i.2.2,false)]++exB out (some (false,cap,m))),fun _=>0⟩) ?_ fun ⟨b2,C,r2⟩ hK=> ?_
   ·cases b with
    |true=>
     refine kCf ?_ (by rfl);refine kW ?_;exact cE ⟨(true,x,T),⟨fun _=>⟨p,U rfl⟩,fun h=>by cases h⟩,wN ⟨kI,kI,kI,kI,kI,trivial⟩ ⟨kJ,kJ,kJ,kJ,kJ,trivial⟩ rfl rfl ⟨rfl,(al _).noFrs _,trivial⟩⟩
    |false=>
     obtain ⟨j,d2,b2⟩:=T;have I:x.args.length+j.length≤0+r.s.length:=I;have hnm:=gk ⟨j,d2,b2⟩ (by show j.length≤_;omega);have p:(if nmL j= [] then (EX.mk 3 V.null (toB w) [] out,true,⟨j,d2,b2⟩) else exF n1 (.args (toB w) (out++ [EX.mk 3 V.null (toB (nmL j)) [] []])) ⟨j.drop (nmL j).length,d2,b2⟩)=(X,OK,R):=p;refine kCt ?_ (by rfl);refine kW ?_;refine kQ [.s [2000000] (rdS ⟨j.drop (nmL j).length,d2,b2⟩) (.str (toB (nmL j)))] ?_;refine kW ?_;have hnl:=gj j;have P:=iy (s:=j);generalize nmL j=w2 at p hnl P⊢;clear hnm;refine kC (fun hb=> ?_) fun hb=> ?_
     ·have hz: ¬w2= []:=by intro h;rw [h] at hb;cases hb
      clear hb;rw [if_neg hz] at p;have P:=P hz;refine kW ?_;exact cE ⟨(true,.mk 3 V.null (toB w2) [] [],⟨j.drop w2.length,d2,b2⟩),⟨fun _=>⟨p,by show (j.drop w2.length).length<r.s.length;rw [gA6];omega⟩,fun h=>by cases h⟩,wN ⟨kI,kI,kI,kI,kI,trivial⟩ ⟨kJ,kJ,⟨_,rfl,.refl _,.refl _,.refl _,.refl _,.refl _,.any _ _ _,.any _ _ _,.refl _,.any _ _ _,.any _ _ _,trivial⟩,kJ,kJ,trivial⟩ rfl rfl ⟨rfl,(al _).noFrs _,trivial⟩⟩
     ·have hz:w2= []:=Fj hb
      clear hb;rw [if_pos hz] at p;refine kW ?_;exact cE ⟨(false,x,⟨j,d2,b2⟩),⟨fun h=>(by cases h),fun _=>p.symm⟩,wN ⟨kI,kI,kI,kI,kI,trivial⟩ ⟨kJ,kJ,kJ,kJ,kJ,trivial⟩ rfl rfl ⟨rfl,(al _).noFrs _,trivial⟩⟩
   clear p I U;dsimp only;refine kW ?_;obtain ⟨hK1,J⟩:=hK;dsimp only at hK1 J;cases b2 with
   |false=>
    have J:=J rfl;cases J;refine kCt ?_ (by rfl);refine kW ?_;exact aR ⟨(some (false,cap,m)),hok,⟨_,rfl,rfl⟩,⟨_,rfl,rfl⟩,⟨_,rfl,(al _).told m⟩,trivial⟩
   |true=>
    obtain ⟨p,hlt⟩:=hK1 rfl;clear hK1 J;refine kCf ?_ (by rfl);refine kW ?_;refine AK.cutK (fun i:Nat×Nat=>exI (out++ [C]) i) (fun i=>ar [(0,.np 2000000 0),(2,.ptr 2 0),(6,.ptr 6 0)]) (fun i=>⟨ag [(2,exZ,false),(6,exQ (toB w)++ [.sli 1000002 10 (out++ [C]).length i.1],false),(2000000,rdC r2,false),(1000002,fX (out++ [C]) i.2,false)],fun _=>0⟩) ?_ fun i hi=> ?_
    ·have hsn:aO out++ [exV C]=aO (out++ [C]):=by rw [fi,EX.row_eq]
     obtain ⟨q1,q2⟩:=hok;dsimp only at q1 q2;refine kP [.m (aO out) []] ?_ ?_
     ·((repeat' apply aI)<;>first|exact kD|(intro hgd;refine ⟨?_,kG⟩;(repeat' apply aI)<;>first|exact kD|skip)|skip)
      all_goals first|exact ⟨_,rfl⟩|exact q2|exact (bu out).symm|exact (ma out).2|(rw [bu];show (out.length+1)*_≤140737488355328;omega)|(rw [bu];show out.length+1≤140737488355328;omega)|(show 0<1;omega)|skip
     refine cO 54 54 1000002 rfl (by omega) rfl fun cap m h1 h2=> ?_
     have hln:(aO out++ [exV C]).length=(out++ [C]).length:=by rw [hsn,bu]
     refine ⟨(cap,m),⟨?_,?_⟩,wN ⟨kI,kI,kI,trivial⟩ ⟨kJ,⟨_,rfl,.refl _,.refl _,.refl _,.refl _,.refl _,.refl _,.refl _,.refl _,.refl _,?_,trivial⟩,kJ,⟨_,rfl,aJz ?_⟩,trivial⟩ rfl rfl ⟨rfl,(al _).noFrs _,trivial⟩⟩
     ·rw [←hln];exact h1
     ·show ((aO (out++ [C])).flatten++_).length=_
      rw [←hsn];exact h2
     ·show AVle1 _ (AV.sli 1000002 10 (aO out++ [exV C]).length cap) _
      rw [hln];exact .refl _
     ·show (aO out++ [exV C]).flatten++_=_
      rw [show aO out++ [exV C]=aO (out++ [C]) from hsn]
    obtain ⟨cap',m'⟩:=i;refine kW ?_;exact AK.lp ⟨(n1,out++ [C],r2,some (true,cap',m')),⟨hi,by dsimp only;rw [gA5,List.length_singleton];omega,by dsimp only;omega,by dsimp only;omega,p⟩,wN ⟨kI,kI,kI,trivial⟩ ⟨kJ,kJ,kJ,kJ,trivial⟩ rfl rfl ⟨rfl,(al _).noFrs _,trivial⟩,hlt⟩
  ·refine kW ?_
   refine AK.cutK (fun _:Unit=>True) (fun _=>ar [(0,.np 2000000 0),(2,.ptr 2 0),(6,.ptr 6 0),(7,.ptr 7 0),(8,.bool b)]) (fun _=>⟨ag ([(2,exZ,false),(6,exQ (toB w)++ [exA 1000001 1000002 out (some (true,cap,m))],false),(7,exV x,false),(2000000,rdC T,false)]++exB out (some (true,cap,m))),fun _=>0⟩) ?_ fun _ _=> ?_
   ·refine AK.regs ?_
    refine SK.run 1 [] trivial ?_;refine SK.callX (lv x.args) (fun f=>rdS T++exS 1000003 1000004 x.args f) (fun f=> .tup [exG 1000003 1000004 x f,.bool b]) [2000000] hM (fun f hf=>uF _ x b f (by rcases f with _|⟨_|_,c,m⟩<;>rfl)) fun g hg=> ?_
    rcases g with _|⟨_|_,c',m'⟩
    ·refine SK.all [] trivial ?_
     exact cE ⟨(),trivial,wN ⟨kI,kI,kI,kI,kI,trivial⟩ ⟨kJ,kJ,⟨_,rfl,.refl _,.refl _,.refl _,.refl _,.refl _,.refl _,.refl _,.refl _,.refl _,by rw [show x.args= [] from hg];exact .any _ _ _,trivial⟩,kJ,kJ,trivial⟩ rfl rfl ⟨rfl,(al _).noFrs _,trivial⟩⟩
    ·refine SK.all [] trivial ?_
     exact cE ⟨(),trivial,Weak.trn (Weak.fz (id:=1000003) rfl rfl) (wN ⟨kI,kI,kI,kI,kI,trivial⟩ ⟨kJ,kJ,⟨_,rfl,.refl _,.refl _,.refl _,.refl _,.refl _,.refl _,.refl _,.refl _,.refl _,iO _ 1000003 x.args c' m' rfl rfl,trivial⟩,kJ,⟨_,rfl,aJz ((al _).clr _ _)⟩,trivial⟩ rfl rfl ⟨rfl,(al _).noFrs _,trivial⟩)⟩
    ·refine SK.all [] trivial ?_
     exact cE ⟨(),trivial,Weak.trn (Weak.fz (id:=1000004) rfl rfl) (wN ⟨kI,kI,kI,kI,kI,trivial⟩ ⟨kJ,kJ,⟨_,rfl,.refl _,.refl _,.refl _,.refl _,.refl _,.refl _,.refl _,.refl _,.refl _,iO _ 1000004 x.args c' m' rfl rfl,trivial⟩,kJ,⟨_,rfl,aJz ((al _).clr _ _)⟩,trivial⟩ rfl rfl ⟨rfl,(al _).noFrs _,trivial⟩)⟩
   clear hM hy;refine kW ?_;refine AK.cutK (fun i:Bool×EX×RD=>cmK n1 (toB w) out r.s.length (X,OK,R) i) (fun i=>ar [(0,.np 2000000 0),(2,.ptr 2 0),(6,.ptr 6 0),(7,.ptr 7 0),(8,.bool i.1)]) (fun i=>⟨ag ([(2,exZ,false),(6,exQ (toB w)++ [exA 1000001 1000002 out (some (true,cap,m))],false),(7,exV i.2.1,false),(2000000,rdC i.2.2,false)]++exB out (some (true,cap,m))),fun _=>0⟩) ?_ fun ⟨b2,C,r2⟩ hK=> ?_
   ·cases b with
    |true=>
     refine kCf ?_ (by rfl);refine kW ?_;exact cE ⟨(true,x,T),⟨fun _=>⟨p,U rfl⟩,fun h=>by cases h⟩,wN ⟨kI,kI,kI,kI,kI,trivial⟩ ⟨kJ,kJ,kJ,kJ,kJ,trivial⟩ rfl rfl ⟨rfl,(al _).noFrs _,trivial⟩⟩
    |false=>
     obtain ⟨j,d2,b2⟩:=T;have I:x.args.length+j.length≤0+r.s.length:=I;have hnm:=gk ⟨j,d2,b2⟩ (by show j.length≤_;omega);have p:(if nmL j= [] then (EX.mk 3 V.null (toB w) [] out,true,⟨j,d2,b2⟩) else exF n1 (.args (toB w) (out++ [EX.mk 3 V.null (toB (nmL j)) [] []])) ⟨j.drop (nmL j).length,d2,b2⟩)=(X,OK,R):=p;refine kCt ?_ (by rfl);refine kW ?_;refine kQ [.s [2000000] (rdS ⟨j.drop (nmL j).length,d2,b2⟩) (.str (toB (nmL j)))] ?_;refine kW ?_;have hnl:=gj j;have P:=iy (s:=j);generalize nmL j=w2 at p hnl P⊢;clear hnm;refine kC (fun hb=> ?_) fun hb=> ?_
     ·have hz: ¬w2= []:=by intro h;rw [h] at hb;cases hb
      clear hb;rw [if_neg hz] at p;have P:=P hz;refine kW ?_;exact cE ⟨(true,.mk 3 V.null (toB w2) [] [],⟨j.drop w2.length,d2,b2⟩),⟨fun _=>⟨p,by show (j.drop w2.length).length<r.s.length;rw [gA6];omega⟩,fun h=>by cases h⟩,wN ⟨kI,kI,kI,kI,kI,trivial⟩ ⟨kJ,kJ,⟨_,rfl,.refl _,.refl _,.refl _,.refl _,.refl _,.any _ _ _,.any _ _ _,.refl _,.any _ _ _,.any _ _ _,trivial⟩,kJ,kJ,trivial⟩ rfl rfl ⟨rfl,(al _).noFrs _,trivial⟩⟩
     ·have hz:w2= []:=Fj hb
      clear hb;rw [if_pos hz] at p;refine kW ?_;exact cE ⟨(false,x,⟨j,d2,b2⟩),⟨fun h=>(by cases h),fun _=>p.symm⟩,wN ⟨kI,kI,kI,kI,kI,trivial⟩ ⟨kJ,kJ,kJ,kJ,kJ,trivial⟩ rfl rfl ⟨rfl,(al _).noFrs _,trivial⟩⟩
   clear p I U;dsimp only;refine kW ?_;obtain ⟨hK1,J⟩:=hK;dsimp only at hK1 J;cases b2 with
   |false=>
    have J:=J rfl;cases J;refine kCt ?_ (by rfl);refine kW ?_;exact aR ⟨(some (true,cap,m)),hok,⟨_,rfl,rfl⟩,⟨_,rfl,rfl⟩,⟨_,rfl,(al _).told m⟩,trivial⟩
   |true=>
    obtain ⟨p,hlt⟩:=hK1 rfl;clear hK1 J;refine kCf ?_ (by rfl);refine kW ?_;refine AK.cutK (fun i:Nat×Nat=>exI (out++ [C]) i) (fun i=>ar [(0,.np 2000000 0),(2,.ptr 2 0),(6,.ptr 6 0)]) (fun i=>⟨ag [(2,exZ,false),(6,exQ (toB w)++ [.sli 1000001 10 (out++ [C]).length i.1],false),(2000000,rdC r2,false),(1000001,fX (out++ [C]) i.2,false)],fun _=>0⟩) ?_ fun i hi=> ?_
    ·have hsn:aO out++ [exV C]=aO (out++ [C]):=by rw [fi,EX.row_eq]
     obtain ⟨q1,q2⟩:=hok;dsimp only at q1 q2;refine kP [.m (aO out) []] ?_ ?_
     ·((repeat' apply aI)<;>first|exact kD|(intro hgd;refine ⟨?_,kG⟩;(repeat' apply aI)<;>first|exact kD|skip)|skip)
      all_goals first|exact ⟨_,rfl⟩|exact q2|exact (bu out).symm|exact (ma out).2|(rw [bu];show (out.length+1)*_≤140737488355328;omega)|(rw [bu];show out.length+1≤140737488355328;omega)|(show 0<1;omega)|skip
     refine cO 54 54 1000001 rfl (by omega) rfl fun cap m h1 h2=> ?_
     have hln:(aO out++ [exV C]).length=(out++ [C]).length:=by rw [hsn,bu]
     refine ⟨(cap,m),⟨?_,?_⟩,wN ⟨kI,kI,kI,trivial⟩ ⟨kJ,⟨_,rfl,.refl _,.refl _,.refl _,.refl _,.refl _,.refl _,.refl _,.refl _,.refl _,?_,trivial⟩,kJ,⟨_,rfl,aJz ?_⟩,trivial⟩ rfl rfl ⟨rfl,(al _).noFrs _,trivial⟩⟩
     ·rw [←hln];exact h1
     ·show ((aO (out++ [C])).flatten++_).length=_
      rw [←hsn];exact h2
     ·show AVle1 _ (AV.sli 1000001 10 (aO out++ [exV C]).length cap) _
      rw [hln];exact .refl _
     ·show (aO out++ [exV C]).flatten++_=_
      rw [show aO out++ [exV C]=aO (out++ [C]) from hsn]
    obtain ⟨cap',m'⟩:=i;refine kW ?_;exact AK.lp ⟨(n1,out++ [C],r2,some (false,cap',m')),⟨hi,by dsimp only;rw [gA5,List.length_singleton];omega,by dsimp only;omega,by dsimp only;omega,p⟩,wN ⟨kI,kI,kI,trivial⟩ ⟨kJ,kJ,kJ,kJ,trivial⟩ rfl rfl ⟨rfl,(al _).noFrs _,trivial⟩,hlt⟩
end
section
set_option maxRecDepth 100000
set_option maxHeartbeats 20000000
def Gt:List Nat:= [2000216,2000213,2000158,2000290,2000289,2000264,2000245,2000215,2000059,2000112,2000058,2000159,2000110,2000105,4000042,5000001,5000006]
noncomputable def du:ACode:=bK Tryz.prog Gt Tryz.f215
noncomputable def mb:AFn:=⟨1,46,du,[.cell 2 10 true]⟩
theorem jD:aq Tryz.prog Gt Tryz.f215=some mb:=kk
theorem jE:ab Tryz.prog 215=true:=kk
end
end Go.Proofs.YtbgflifmanjpjaaGreatDoor
