/- Part 43. -/
import Derived.Test.YtbgflifmanjpjaaGreatDoorS42
set_option linter.unusedSimpArgs false
set_option linter.unusedVariables false
namespace Go.Proofs.YtbgflifmanjpjaaGreatDoor
section
open Go.RowKit
def ppJ:Nat×EX×RD×FX→Fr×St
 |(_,x,r,f)=>(ar [(0,.np 2000000 0),(2,.ptr 2 0),(3,.ptr 3 0)],⟨ag ([(2,exZ,false),(3,exH x.kind x.v x.name x.steps++ [exA 1000001 1000002 x.args f],false),(2000000,rdC ⟨tlw r.s,r.deep,r.bad⟩,false)]++exB x.args f),fun _=>0⟩)
theorem Kr (k:Nat):(!decide ((k:Int)=3))=decide (k≠3):=by
 by_cases h:k=3
 ·subst h;rfl
 ·have: ¬(k:Int)=3:=by omega
  simp [h,this]
set_option maxRecDepth 20000 in
theorem Nj (n:Nat) (hc: ∀k≤n,PC k):PP (n+1):=fun ⟨s,dp,bd⟩ X OK R hl hn j=>by
 have hl:s.length≤1000000:=hl;have hn:4*s.length+3≤n+1:=hn;refine MSX.enterE Tryz.func215 jD jE (by rfl) (by rfl) fun E hE=> ?_
 show AK _ _ _ [.c du] _ _;rw [du];rw [exF] at j;rcases hy:exF n .command ⟨s,dp,bd⟩ with ⟨x,by_,r1⟩
 rw [hy] at j;have j:exF n (.bars x) r1=(X,OK,R):=j;have J:=(bN n .command ⟨s,dp,bd⟩).1;rw [hy] at J;have J:x.args.length+r1.s.length≤0+s.length:=J;have hM:=(hc n (gA4 _)) ⟨s,dp,bd⟩ x by_ r1 hl (by show 4*s.length+2≤n;omega) hy;obtain ⟨s1,d1,b1⟩:=r1;have J:x.args.length+s1.length≤0+s.length:=J;have hsk:=mN ⟨s1,d1,b1⟩;refine kW ?_;refine AK.cutK (lv x.args) (fun f=>ar [(0,.np 2000000 0),(2,.ptr 2 0),(3,.ptr 3 0)]) (fun f=>⟨ag ([(2,exZ,false),(3,exH x.kind x.v x.name x.steps++ [exA 1000001 1000002 x.args f],false),(2000000,rdC ⟨s1,d1,b1⟩,false)]++exB x.args f),fun _=>0⟩) ?_ fun f hf=> ?_
 ·refine AK.regs ?_
  refine SK.run 1 [] trivial ?_;refine SK.callX (lv x.args) (fun f=>rdS ⟨s1,d1,b1⟩++exS 1000001 1000002 x.args f) (fun f=>exG 1000001 1000002 x f) [2000000] hM (fun f hf=>A6 _ x f (by rcases f with _|⟨_|_,c,m⟩<;>rfl)) fun f hf=> ?_
  rcases f with _|⟨_|_,cap,m⟩
  ·refine SK.all [] trivial ?_
   exact cE ⟨none,hf,wN ⟨kI,kI,kI,trivial⟩ ⟨kJ,kJ,kJ,trivial⟩ rfl rfl ⟨rfl,trivial⟩⟩
  ·refine SK.all [] trivial ?_
   exact cE ⟨some (false,cap,m),hf,wN ⟨kI,kI,kI,trivial⟩ ⟨kJ,kJ,kJ,kJ,trivial⟩ rfl rfl ⟨rfl,(al _).noFrs _,trivial⟩⟩
  ·refine SK.all [] trivial ?_
   exact cE ⟨some (true,cap,m),hf,wN ⟨kI,kI,kI,trivial⟩ ⟨kJ,kJ,kJ,kJ,trivial⟩ rfl rfl ⟨rfl,(al _).noFrs _,trivial⟩⟩
 clear hM hy;refine kW ?_;refine AK.cutK (fun _:Unit=>True) (fun _=>ar [(0,.np 2000000 0),(2,.ptr 2 0),(3,.ptr 3 0)]) (fun _=>⟨ag ([(2,exZ,false),(3,exH x.kind x.v x.name x.steps++ [exA 1000001 1000002 x.args f],false),(2000000,rdC ⟨tlw s1,d1,b1⟩,false)]++exB x.args f),fun _=>0⟩) ?_ fun _ _=> ?_
 ·rcases f with _|⟨_|_,cap,m⟩
  ·refine kQ [.s [2000000] (rdS ⟨tlw s1,d1,b1⟩) (.tup [])] ?_
   exact cE ⟨(),trivial,wN ⟨kI,kI,kI,trivial⟩ ⟨kJ,kJ,kJ,trivial⟩ rfl rfl ⟨rfl,trivial⟩⟩
  all_goals
   refine kQ [.s [2000000] (rdS ⟨tlw s1,d1,b1⟩) (.tup [])] ?_;exact cE ⟨(),trivial,wN ⟨kI,kI,kI,trivial⟩ ⟨kJ,kJ,kJ,kJ,trivial⟩ rfl rfl ⟨rfl,(al _).noFrs _,trivial⟩⟩
 clear hsk;have hI0:lv x.args f∧x.args.length+s1.length≤1000000∧4*s1.length+1≤n∧n≤n∧exF n (.bars x) ⟨s1,d1,b1⟩=(X,OK,R):=⟨hf,by omega,by omega,gA4 _,j⟩
 refine kW ?_;refine aJ ppJ (fun x=>lv x.2.1.args x.2.2.2∧x.2.1.args.length+x.2.2.1.s.length≤1000000∧4*x.2.2.1.s.length+1≤x.1∧x.1≤n∧exF x.1 (.bars x.2.1) x.2.2.1=(X,OK,R)) (fun x=>x.2.2.1.s.length) (n,x,⟨s1,d1,b1⟩,f) hI0 (fun E G a w h=>⟨G,h⟩) fun ⟨T,x,r,f⟩ hI=> ?_
 clear hI0 j hf J;obtain ⟨P,hb0,hn1,hn2,j⟩:=hI;obtain ⟨s2,d2,b2⟩:=r;dsimp only at P hb0 hn1 hn2 j;obtain ⟨T,rfl⟩: ∃n',T=n' +1:=⟨T-1,by omega⟩
 show AK _ _ _ _ (ar _) _;rw [exF] at j;have htl:=cL s2;have hpr:=fg (tlw s2) 124;simp only [RD.skip,RD.to] at j;dsimp only [ppJ];generalize tlw s2=u at j htl hpr⊢
 have hcase:(bE 124 u=false∧(X,OK,R)=(x,true,(⟨u,d2,b2⟩:RD)))∨ ∃t,u=124::t∧(match exF T .command ⟨t,d2,b2⟩ with
       |(y,_,r1)=>if y.kind≠3∧r1.bad=0 then (EX.null,true,r1.fail 20) else exF T (.bars (.mk y.kind y.v y.name y.steps (y.args++ [x]))) r1)=(X,OK,R):=by
  cases u with
  |nil=>exact .inl ⟨rfl,j.symm⟩
  |cons d u' =>
   dsimp only at j;by_cases hd:d=124
   ·rw [if_pos hd] at j
    exact .inr ⟨u',by rw [hd],j⟩
   ·rw [if_neg hd] at j
    exact .inl ⟨by simpa [bE] using hd,j.symm⟩
 clear j;refine kW ?_;refine kQ [.v (.bool (bE 124 u))] ?_;rcases hcase with ⟨hh,j⟩|⟨t,rfl,j⟩
 ·cases j
  rw [hh];refine kCf ?_;refine AK.exit rfl ?_;rcases f with _|⟨_|_,cap,m⟩
  ·refine kW ?_
   exact aR ⟨none,P,⟨_,rfl,rfl⟩,⟨_,rfl,rfl⟩,trivial⟩
  ·refine kW ?_
   exact aR ⟨some (false,cap,m),P,⟨_,rfl,rfl⟩,⟨_,rfl,rfl⟩,⟨_,rfl,(al _).told m⟩,trivial⟩
  ·refine kW ?_
   exact aR ⟨some (true,cap,m),P,⟨_,rfl,rfl⟩,⟨_,rfl,rfl⟩,⟨_,rfl,(al _).told m⟩,trivial⟩
 rw [gA3] at htl;refine kCt ?_ (by rfl);refine kW ?_;refine AK.cutK (fun _:Unit=>True) (fun _=>ar [(0,.np 2000000 0),(2,.ptr 2 0),(3,.ptr 3 0)]) (fun _=>⟨ag [(2,exZ,false),(3,exV x,false),(2000000,rdC ⟨t,d2,b2⟩,false)],fun _=>0⟩) ?_ fun _ _=> ?_
 ·refine kP [] ?_ ?_
  ·((repeat' apply aI)<;>first|exact kD|(intro hgd;refine ⟨?_,kG⟩;(repeat' apply aI)<;>first|exact kD|skip)|skip)
   all_goals (rw [ae,gA3];omega)
  rw [show ((1:Int)).toNat=((1:Nat):Int).toNat from rfl,bg,show (124::t).drop 1=t from rfl];rcases f with _|⟨_|_,cap,m⟩
  ·exact cE ⟨(),trivial,wN ⟨kI,kI,kI,trivial⟩ ⟨kJ,⟨_,rfl,.refl _,.refl _,.refl _,.refl _,.refl _,.refl _,.refl _,.refl _,.refl _,by rw [show x.args= [] from P];exact .any _ _ _,trivial⟩,kJ,trivial⟩ rfl rfl ⟨rfl,trivial⟩⟩
  ·exact cE ⟨(),trivial,Weak.trn (Weak.fz (id:=1000001) rfl rfl) (wN ⟨kI,kI,kI,trivial⟩ ⟨kJ,⟨_,rfl,.refl _,.refl _,.refl _,.refl _,.refl _,.refl _,.refl _,.refl _,.refl _,iO _ 1000001 x.args cap m rfl rfl,trivial⟩,kJ,trivial⟩ rfl rfl ⟨rfl,trivial⟩)⟩
  ·exact cE ⟨(),trivial,Weak.trn (Weak.fz (id:=1000002) rfl rfl) (wN ⟨kI,kI,kI,trivial⟩ ⟨kJ,⟨_,rfl,.refl _,.refl _,.refl _,.refl _,.refl _,.refl _,.refl _,.refl _,.refl _,iO _ 1000002 x.args cap m rfl rfl,trivial⟩,kJ,trivial⟩ rfl rfl ⟨rfl,trivial⟩)⟩
 clear hpr P;rcases hy:exF T .command ⟨t,d2,b2⟩ with ⟨y,b,⟨C,U,p⟩⟩
 rw [hy] at j;have J:=(bN T .command ⟨t,d2,b2⟩).1;rw [hy] at J;have J:y.args.length+C.length≤0+t.length:=J;have hM:=(hc T (by omega)) ⟨t,d2,b2⟩ y b ⟨C,U,p⟩ (by show t.length≤_;omega) (by show 4*t.length+2≤T;omega) hy;have j:(if y.kind≠3∧p=0 then (EX.null,true,⟨[],U,if p=0 then 20 else p⟩) else exF T (.bars (.mk y.kind y.v y.name y.steps (y.args++ [x]))) ⟨C,U,p⟩)=(X,OK,R):=j;have hfl:=iz ⟨C,U,p⟩ 20;have hsk:=mN ⟨C,U,p⟩;refine kW ?_;refine AK.regs ?_;refine SK.run 1 [] trivial ?_;refine SK.callX (lv y.args) (fun f=>rdS ⟨C,U,p⟩++exS 1000001 1000002 y.args f) (fun f=>exG 1000001 1000002 y f) [2000000] hM (fun f hf=>A6 _ y f (by rcases f with _|⟨_|_,c,m⟩<;>rfl)) fun g P=> ?_
 clear hM hy;rcases g with _|⟨_|_,cap,m⟩
 ·refine SK.all [] trivial ?_
  refine kW ?_;refine kQ [] ?_;rw [Kr];refine kC (fun hb=> ?_) fun hb=> ?_
  ·have hd:y.kind≠3∧p=0:=by simpa using hb
   clear hb;rw [if_pos hd] at j;cases j;refine kW ?_;refine kQ [.s [2000000] (rdS ⟨[],U,if p=0 then 20 else p⟩) (exN EX.null)] ?_;exact aR ⟨none,rfl,⟨_,rfl,rfl⟩,⟨_,rfl,rfl⟩,trivial⟩
  have hd: ¬(y.kind≠3∧p=0):=by simpa using hb
  clear hb;rw [if_neg hd] at j;refine kW ?_;refine AK.cutK (fun i:Nat×Nat=>exI (y.args++ [x]) i) (fun i=>ar [(0,.np 2000000 0),(2,.ptr 2 0),(3,.ptr 3 0),(4,.ptr 4 0)]) (fun i=>⟨ag [(2,exZ,false),(3,exV x,false),(4,exH y.kind y.v y.name y.steps++ [.sli 1000001 10 (y.args++ [x]).length i.1],false),(2000000,rdC ⟨C,U,p⟩,false),(1000001,fX (y.args++ [x]) i.2,false)],fun _=>0⟩) ?_ fun i hi=> ?_
  ·have I:aO y.args++ [exV x]=aO (y.args++ [x]):=by rw [fi,EX.row_eq]
   have hz:y.args= []:=P;rw [hz] at I⊢;refine kP [.m [] []] ?_ ?_
   ·((repeat' apply aI)<;>first|exact kD|(intro hgd;refine ⟨?_,kG⟩;(repeat' apply aI)<;>first|exact kD|skip)|skip)
    all_goals first|(show 0<1;omega)|(show 1*_≤140737488355328;omega)|(show 1≤140737488355328;omega)|skip
   refine cO 42 42 1000001 rfl (by omega) rfl fun cap m h1 h2=> ?_
   have hln:([]++ [exV x]).length=([]++ [x]).length:=by rfl
   refine ⟨(cap,m),⟨?_,?_⟩,wN ⟨kI,kI,kI,kI,trivial⟩ ⟨kJ,kJ,⟨_,rfl,.refl _,.refl _,.refl _,.refl _,.refl _,.refl _,.refl _,.refl _,.refl _,?_,trivial⟩,kJ,⟨_,rfl,aJz ?_⟩,trivial⟩ rfl rfl ⟨rfl,(al _).noFrs _,trivial⟩⟩
   ·rw [←hln];exact h1
   ·show ((aO ([]++ [x])).flatten++_).length=_
    rw [←I];exact h2
   ·show AVle1 _ (AV.sli 1000001 10 ([]++ [exV x]).length cap) _
    rw [hln];exact .refl _
   ·show ([]++ [exV x]).flatten++_=_
    rw [show []++ [exV x]=aO ([]++ [x]) from I]
  obtain ⟨cap',m'⟩:=i;refine kW ?_;refine kQ [.s [2000000] (rdS ⟨tlw C,U,p⟩) (.tup [])] ?_;exact AK.lp ⟨(T,.mk y.kind y.v y.name y.steps (y.args++ [x]),⟨C,U,p⟩,some (false,cap',m')),⟨hi,by show (y.args++ [x]).length+C.length≤_;rw [gA5,List.length_singleton];omega,by show 4*C.length+1≤T;omega,by show T≤n;omega,j⟩,wN ⟨kI,kI,kI,trivial⟩ ⟨kJ,kJ,kJ,kJ,trivial⟩ rfl rfl ⟨rfl,(al _).noFrs _,trivial⟩,by show C.length<s2.length;omega⟩
 ·refine SK.all [] trivial ?_
  refine kW ?_;refine kQ [] ?_;rw [Kr];refine kC (fun hb=> ?_) fun hb=> ?_
  ·have hd:y.kind≠3∧p=0:=by simpa using hb
   clear hb;rw [if_pos hd] at j;cases j;refine kW ?_;refine kQ [.s [2000000] (rdS ⟨[],U,if p=0 then 20 else p⟩) (exN EX.null)] ?_;exact aR ⟨none,rfl,⟨_,rfl,rfl⟩,⟨_,rfl,rfl⟩,trivial⟩
  have hd: ¬(y.kind≠3∧p=0):=by simpa using hb
  clear hb;rw [if_neg hd] at j;refine kW ?_;refine AK.cutK (fun i:Nat×Nat=>exI (y.args++ [x]) i) (fun i=>ar [(0,.np 2000000 0),(2,.ptr 2 0),(3,.ptr 3 0),(4,.ptr 4 0)]) (fun i=>⟨ag [(2,exZ,false),(3,exV x,false),(4,exH y.kind y.v y.name y.steps++ [.sli 1000002 10 (y.args++ [x]).length i.1],false),(2000000,rdC ⟨C,U,p⟩,false),(1000002,fX (y.args++ [x]) i.2,false)],fun _=>0⟩) ?_ fun i hi=> ?_
  ·have I:aO y.args++ [exV x]=aO (y.args++ [x]):=by rw [fi,EX.row_eq]
   obtain ⟨q1,q2⟩:=P;dsimp only at q1 q2;refine kP [.m (aO y.args) []] ?_ ?_
   ·((repeat' apply aI)<;>first|exact kD|(intro hgd;refine ⟨?_,kG⟩;(repeat' apply aI)<;>first|exact kD|skip)|skip)
    all_goals first|exact ⟨_,rfl⟩|exact q2|exact (bu y.args).symm|exact (ma y.args).2|(rw [bu];show (y.args.length+1)*_≤140737488355328;omega)|(rw [bu];show y.args.length+1≤140737488355328;omega)|(show 0<1;omega)|skip
   refine cO 42 42 1000002 rfl (by omega) rfl fun cap m h1 h2=> ?_
   have hln:(aO y.args++ [exV x]).length=(y.args++ [x]).length:=by rw [I,bu]
   refine ⟨(cap,m),⟨?_,?_⟩,wN ⟨kI,kI,kI,kI,trivial⟩ ⟨kJ,kJ,⟨_,rfl,.refl _,.refl _,.refl _,.refl _,.refl _,.refl _,.refl _,.refl _,.refl _,?_,trivial⟩,kJ,⟨_,rfl,aJz ?_⟩,trivial⟩ rfl rfl ⟨rfl,(al _).noFrs _,trivial⟩⟩
   ·rw [←hln];exact h1
   ·show ((aO (y.args++ [x])).flatten++_).length=_
    rw [←I];exact h2
   ·show AVle1 _ (AV.sli 1000002 10 (aO y.args++ [exV x]).length cap) _
    rw [hln];exact .refl _
   ·show (aO y.args++ [exV x]).flatten++_=_
    rw [show aO y.args++ [exV x]=aO (y.args++ [x]) from I]
  obtain ⟨cap',m'⟩:=i;refine kW ?_;refine kQ [.s [2000000] (rdS ⟨tlw C,U,p⟩) (.tup [])] ?_;exact AK.lp ⟨(T,.mk y.kind y.v y.name y.steps (y.args++ [x]),⟨C,U,p⟩,some (true,cap',m')),⟨hi,by show (y.args++ [x]).length+C.length≤_;rw [gA5,List.length_singleton];omega,by show 4*C.length+1≤T;omega,by show T≤n;omega,j⟩,wN ⟨kI,kI,kI,trivial⟩ ⟨kJ,kJ,kJ,kJ,trivial⟩ rfl rfl ⟨rfl,(al _).noFrs _,trivial⟩,by show C.length<s2.length;omega⟩
 ·refine SK.all [] trivial ?_
  refine kW ?_;refine kQ [] ?_;rw [Kr];refine kC (fun hb=> ?_) fun hb=> ?_
  ·have hd:y.kind≠3∧p=0:=by simpa using hb
   clear hb;rw [if_pos hd] at j;cases j;refine kW ?_;refine kQ [.s [2000000] (rdS ⟨[],U,if p=0 then 20 else p⟩) (exN EX.null)] ?_;exact aR ⟨none,rfl,⟨_,rfl,rfl⟩,⟨_,rfl,rfl⟩,trivial⟩
  have hd: ¬(y.kind≠3∧p=0):=by simpa using hb
  clear hb;rw [if_neg hd] at j;refine kW ?_;refine AK.cutK (fun i:Nat×Nat=>exI (y.args++ [x]) i) (fun i=>ar [(0,.np 2000000 0),(2,.ptr 2 0),(3,.ptr 3 0),(4,.ptr 4 0)]) (fun i=>⟨ag [(2,exZ,false),(3,exV x,false),(4,exH y.kind y.v y.name y.steps++ [.sli 1000001 10 (y.args++ [x]).length i.1],false),(2000000,rdC ⟨C,U,p⟩,false),(1000001,fX (y.args++ [x]) i.2,false)],fun _=>0⟩) ?_ fun i hi=> ?_
  ·have I:aO y.args++ [exV x]=aO (y.args++ [x]):=by rw [fi,EX.row_eq]
   obtain ⟨q1,q2⟩:=P;dsimp only at q1 q2;refine kP [.m (aO y.args) []] ?_ ?_
   ·((repeat' apply aI)<;>first|exact kD|(intro hgd;refine ⟨?_,kG⟩;(repeat' apply aI)<;>first|exact kD|skip)|skip)
    all_goals first|exact ⟨_,rfl⟩|exact q2|exact (bu y.args).symm|exact (ma y.args).2|(rw [bu];show (y.args.length+1)*_≤140737488355328;omega)|(rw [bu];show y.args.length+1≤140737488355328;omega)|(show 0<1;omega)|skip
   refine cO 42 42 1000001 rfl (by omega) rfl fun cap m h1 h2=> ?_
   have hln:(aO y.args++ [exV x]).length=(y.args++ [x]).length:=by rw [I,bu]
   refine ⟨(cap,m),⟨?_,?_⟩,wN ⟨kI,kI,kI,kI,trivial⟩ ⟨kJ,kJ,⟨_,rfl,.refl _,.refl _,.refl _,.refl _,.refl _,.refl _,.refl _,.refl _,.refl _,?_,trivial⟩,kJ,⟨_,rfl,aJz ?_⟩,trivial⟩ rfl rfl ⟨rfl,(al _).noFrs _,trivial⟩⟩
   ·rw [←hln];exact h1
   ·show ((aO (y.args++ [x])).flatten++_).length=_
    rw [←I];exact h2
   ·show AVle1 _ (AV.sli 1000001 10 (aO y.args++ [exV x]).length cap) _
    rw [hln];exact .refl _
   ·show (aO y.args++ [exV x]).flatten++_=_
    rw [show aO y.args++ [exV x]=aO (y.args++ [x]) from I]
  obtain ⟨cap',m'⟩:=i;refine kW ?_;refine kQ [.s [2000000] (rdS ⟨tlw C,U,p⟩) (.tup [])] ?_;exact AK.lp ⟨(T,.mk y.kind y.v y.name y.steps (y.args++ [x]),⟨C,U,p⟩,some (false,cap',m')),⟨hi,by show (y.args++ [x]).length+C.length≤_;rw [gA5,List.length_singleton];omega,by show 4*C.length+1≤T;omega,by show T≤n;omega,j⟩,wN ⟨kI,kI,kI,trivial⟩ ⟨kJ,kJ,kJ,kJ,trivial⟩ rfl rfl ⟨rfl,(al _).noFrs _,trivial⟩,by show C.length<s2.length;omega⟩
end
section
set_option maxRecDepth 100000
set_option maxHeartbeats 20000000
def Gu:List Nat:= [2000216,2000213,2000158,2000290,2000289,2000264,2000245,2000215,2000059,2000112,2000058,2000159,2000110,2000105,5000002]
noncomputable def A8:ACode:=bK Tryz.prog Gu Tryz.f162
noncomputable def A9:AFn:=⟨1,38,A8,[.cell 2 10 true,.tmp 3]⟩
theorem uh:aq Tryz.prog Gu Tryz.f162=some A9:=kk
theorem ui:ab Tryz.prog 162=true:=kk
end
section
open Go.RowKit
theorem g7: ∀n k,k≤n→PO k∧PC k∧PP k
 |0,k,g=>by
  obtain rfl:k=0:=by omega
  exact ⟨fun r x ok r' _ h _=>absurd h (by omega),fun r x ok r' _ h _=>absurd h (by omega),fun r x ok r' _ h _=>absurd h (by omega)⟩
 |n+1,k,g=>by
  by_cases h:k≤n
  ·exact g7 n k h
  ·obtain rfl:k=n+1:=by omega
   exact ⟨Ia n (g7 n n (gA4 _)).2.2,Ib n (fun k g=>(g7 n k g).1),Nj n (fun k g=>(g7 n k g).2.1)⟩
abbrev rd8 (q:Nat) (r:RD):List (Nat×List AV):= [(q,rdC r)]
theorem Ks (l p:Bs):AC Tryz.prog 161 [.str (toB l),.str (toB p)] (.tup [.str (toB (if p.isPrefixOf l=true then l.drop p.length else l)),.bool (p.isPrefixOf l)]):=by
 have h:=NI (toB l) (toB p);rw [kb] at h
 have e:fC (toB l) (toB p)=toB (if p.isPrefixOf l=true then l.drop p.length else l):=by
  unfold fC;rw [kb];split
  ·rw [ae p];exact fE l p.length
  ·rfl
 rw [e] at h;exact h
theorem Gv (s:Bs) (hl:s.length≤1000000):AC Tryz.prog 109 [.str (toB s)] (.tup [.str (toB (nmL s)),.str (toB (ck s))]):=by
 have g:=(gk ⟨s,0,0⟩ hl).ren (swY 2000000 8) bA (bY (by rfl));refine kE Tryz.func109 uf ug fun E i=> ?_
 refine kW ?_;refine kQ [.s [8] (rd8 8 ⟨ck s,0,0⟩) (.str (toB (nmL s)))] ?_;refine kW ?_;refine aR ⟨_,rfl,?_⟩;rfl
theorem xd (s:Bs) (hl:s.length≤1000000):AC Tryz.prog 160 [.str (toB s)] (.tup [.str (toB (nh s).1),.str (toB (nh s).2.1),.bool (nh s).2.2]):=by
 have j:=Dn s;have i:=cL s;have p:=Ks (tlw s) [36]
 have e:nh s=match tlw s with| []=>([],[],false)|c::t=>if c=36 then (nmL t,tlw (t.drop (nmL t).length), !(nmL t).isEmpty) else ([],[],false):=by
  unfold nh LB;cases tlw s with
  |nil=>rfl
  |cons c t=>
   dsimp only;by_cases h:c=36
   ·rw [if_pos h,if_pos h]
   ·rw [if_neg h,if_neg h]
 rw [e];generalize tlw s=u at*;refine kE Tryz.func160 nz nA fun E P=> ?_
 refine kW ?_;refine kQ [.v (.str (toB u)),.v (.tup [.str (toB (if ([36]:Bs).isPrefixOf u=true then u.drop 1 else u)),.bool (([36]:Bs).isPrefixOf u)])] ?_;refine kW ?_
 have g:(([36]:Bs).isPrefixOf u=false∧(match u with| []=>(([],[],false):Bs×Bs×Bool)|c::t=>if c=36 then (nmL t,tlw (t.drop (nmL t).length), !(nmL t).isEmpty) else ([],[],false))=([],[],false))∨ ∃t,u=36::t:=by
  cases u with
  |nil=>exact .inl ⟨rfl,rfl⟩
  |cons c t=>
   by_cases h:c=36
   ·exact .inr ⟨t,by rw [h]⟩
   ·exact .inl ⟨by simp [List.isPrefixOf,Ne.symm h],by dsimp only;rw [if_neg h]⟩
 rcases g with ⟨r,C⟩|⟨t,rfl⟩
 ·rw [r,C]
  refine kCt ?_ (by rfl);refine kW ?_;refine aR ⟨_,rfl,?_⟩;rfl
 ·rw [gA3] at i
  refine kCf ?_ (by rfl);have I:=(gk ⟨t,0,0⟩ (by show t.length≤_;omega)).ren (swY 2000000 18) bA (bY (by rfl));have J:=(mN ⟨t.drop (nmL t).length,0,0⟩).ren (swY 2000000 18) bA (bY (by rfl));refine kW ?_;refine kQ [.s [18] (rd8 18 ⟨t.drop (nmL t).length,0,0⟩) (.str (toB (nmL t)))] ?_;refine kW ?_;refine kQ [.s [18] (rd8 18 ⟨tlw (t.drop (nmL t).length),0,0⟩) (.tup [])] ?_;refine kW ?_;refine aR ⟨_,rfl,?_⟩;dsimp only;rw [if_pos rfl,bH];rfl
theorem Fk (s:Bs) (hl:s.length≤1000000):AC Tryz.prog 111 [.str (toB s)] (.tup [.str (toB (iJ s).1),.str (toB (iJ s).2.1),.bool (iJ s).2.2]):=by
 have i:=xd s hl;unfold iJ;generalize nh s=q at*;obtain ⟨n,r,b⟩:=q;have g:=Ks r [58,61];refine kE Tryz.func111 wZ w4 fun E j=> ?_
 refine kW ?_;refine kQ [.v (.tup [.str (toB n),.str (toB r),.bool b])] ?_;refine kW ?_;cases b with
 |false=>
  refine kCf ?_;refine kW ?_;refine aR ⟨_,rfl,?_⟩;rfl
 |true=>
  refine kCt ?_;refine kW ?_;refine kQ [.v (.tup [.str (toB (if ([58,61]:Bs).isPrefixOf r=true then r.drop 2 else r)),.bool (([58,61]:Bs).isPrefixOf r)])] ?_;refine kW ?_;refine aR ⟨_,rfl,?_⟩;dsimp only;cases h:([58,61]:Bs).isPrefixOf r<;>rfl
theorem Mk (u:Bs):(!decide (toB u=⟨#[]⟩))=decide (u≠ []):=by
 rw [bH];cases u<;>simp
theorem L1 (r:RD) (x:EX) (f:FX) {g:Nat→Option (List AV×Bool)} (i:bf g (au [8] (rd8 8 r++exS 1000001 1000002 x.args f))=true):(okS [8] (rd8 8 r++exS 1000001 1000002 x.args f) (exG 1000001 1000002 x f)&&bf g (au [8] (rd8 8 r++exS 1000001 1000002 x.args f)))=true:=by
 rw [i,Bool.and_true];rcases f with _|⟨_|_,c,m⟩
 ·rfl
 ·show ((_&&(true&&((fX x.args m).all (AV.inS [8,1000001])&&true)))&&_)=true
  rw [(al x.args).inS];rfl
 ·show ((_&&(true&&((fX x.args m).all (AV.inS [8,1000002])&&true)))&&_)=true
  rw [(al x.args).inS];rfl
theorem Ml (q:Nat) (l:List EX) (m:Nat):qH (swY 2000000 8) [(q,fX l m)]= [(swY 2000000 8 q,fX l m)]:=by
 show [(swY 2000000 8 q,(fX l m).map (AV.ren (swY 2000000 8)))]=_;rw [(al l).ren]
theorem Mm (s:Bs) (hl:s.length≤1000000):AC Tryz.prog 162 [.str (toB s)] (.tup [.agg (tQ s).1.row,.int .i64 (tQ s).2]):=by
 unfold tQ;rcases hy:exF (4*s.length+4) .pipe ⟨s,0,0⟩ with ⟨x,b,⟨p,j,i⟩⟩
 have r:=(bN (4*s.length+4) .pipe ⟨s,0,0⟩).1;rw [hy] at r;have r:x.args.length+p.length≤0+s.length:=r;have U:=((g7 _ _ (gA4 _)).2.2 ⟨s,0,0⟩ x b ⟨p,j,i⟩ hl (by show 4*s.length+3≤4*s.length+4;omega) hy).ren (swY 2000000 8) bA (bY (by rfl));have J:=(mN ⟨p,j,i⟩).ren (swY 2000000 8) bA (bY (by rfl));clear hy
 have C:MSX Tryz.prog 215 (rd8 8 ⟨s,0,0⟩) [.np 8 0] (lv x.args) (fun f=>rd8 8 ⟨p,j,i⟩++exS 1000001 1000002 x.args f) (fun f=>exG 1000001 1000002 x f):=U.impY (fun f=>f) (fun _ h=>h) (fun f=>by
  rcases f with _|⟨_|_,c,m⟩
  ·rfl
  ·exact congrArg (List.cons _) (Ml 1000001 x.args m).symm
  ·exact congrArg (List.cons _) (Ml 1000002 x.args m).symm) fun f=>by rcases f with _|⟨_|_,c,m⟩<;>rfl
 have htl:=cL p;refine kE Tryz.func162 uh ui fun E hE=> ?_
 refine kW ?_;refine AK.cutK (fun _:Unit=>True) (fun _=>ar [(2,.ptr 2 0),(3,.int .i64 0),(4,.ptr 8 0),(5,.ptr 5 0)]) (fun _=>⟨ag [(2,exZ,false),(5,exV x,false),(8,rdC ⟨p,j,i⟩,false)],fun _=>0⟩) ?_ fun _ _=> ?_
 ·refine AK.regs ?_
  refine SK.run 1 [] trivial ?_;refine SK.callX (lv x.args) (fun f=>rd8 8 ⟨p,j,i⟩++exS 1000001 1000002 x.args f) (fun f=>exG 1000001 1000002 x f) [8] C (fun f hf=>L1 _ x f (by rcases f with _|⟨_|_,c,m⟩<;>rfl)) fun g P=> ?_
  rcases g with _|⟨_|_,cap,m⟩
  ·refine SK.all [] trivial ?_
   exact cE ⟨(),trivial,wN ⟨kI,kI,kI,kI,trivial⟩ ⟨kJ,⟨_,rfl,.refl _,.refl _,.refl _,.refl _,.refl _,.refl _,.refl _,.refl _,.refl _,by rw [show x.args= [] from P];exact .any _ _ _,trivial⟩,kJ,trivial⟩ rfl rfl trivial⟩
  ·refine SK.all [] trivial ?_
   exact cE ⟨(),trivial,Weak.trn (Weak.fz (id:=1000001) rfl rfl) (wN ⟨kI,kI,kI,kI,trivial⟩ ⟨kJ,⟨_,rfl,.refl _,.refl _,.refl _,.refl _,.refl _,.refl _,.refl _,.refl _,.refl _,iO _ 1000001 x.args cap m rfl rfl,trivial⟩,kJ,trivial⟩ rfl rfl trivial)⟩
  ·refine SK.all [] trivial ?_
   exact cE ⟨(),trivial,Weak.trn (Weak.fz (id:=1000002) rfl rfl) (wN ⟨kI,kI,kI,kI,trivial⟩ ⟨kJ,⟨_,rfl,.refl _,.refl _,.refl _,.refl _,.refl _,.refl _,.refl _,.refl _,.refl _,iO _ 1000002 x.args cap m rfl rfl,trivial⟩,kJ,trivial⟩ rfl rfl trivial)⟩
 clear U C;dsimp only;rw [show (⟨p,j,i⟩:RD).skip=⟨tlw p,j,i⟩ from rfl] at J;generalize tlw p=u at*;have hfl:=(iz ⟨u,j,i⟩ 20).ren (swY 2000000 8) bA (bY (by rfl));refine kW ?_;refine kQ [.s [8] (rd8 8 ⟨u,j,i⟩) (.tup [])] ?_;refine kW ?_;refine kQ [] ?_;rw [Mk];refine kC (fun hb=> ?_) fun hb=> ?_
 ·have R:i=0∧u≠ []:=by simpa using hb
  clear hb;obtain ⟨I,T⟩:=R;subst I;rw [if_neg (show¬((0:Int)≠0) by simp),if_pos (show u≠ [] from T)];refine kW ?_;refine kQ [.s [8] (rd8 8 ⟨[],j,20⟩) (exN EX.null)] ?_;refine kW ?_;refine kCt ?_;refine kW ?_;refine AK.weak (wN (row:=fun _=>0) (L:= [(2,.ptr 2 0),(4,.ptr 8 0)]) (BL:= [(2,exZ,false),(8,rdC ⟨[],j,20⟩,false)]) ⟨kI,kI,trivial⟩ ⟨kJ,kJ,trivial⟩ rfl rfl trivial) ?_;refine AK.regaE fw0 [] (ar [(2,.ptr 2 0),(3,.int .i64 20)]) ⟨ag [(2,exZ,false)],fun _=>0⟩ ?_ ?_
  ·(repeat' (first|exact trivial|apply aI))
   all_goals exact wN (L:= [(2,.ptr 2 0),(3,.int .i64 20)]) ⟨kI,kI,trivial⟩ ⟨kJ,trivial⟩ rfl rfl trivial
  refine aR ⟨_,rfl,?_⟩;rfl
 ·have R: ¬(i=0∧u≠ []):=by simpa using hb
  clear hb;by_cases I:i=0
  ·subst I
   have T:u= []:=Classical.not_not.1 fun h=>R ⟨rfl,h⟩
   rw [if_neg (show¬((0:Int)≠0) by simp),if_neg (show¬u≠ [] from fun h=>h T)];refine kW ?_;refine kCf ?_;refine kW ?_;dsimp only;rw [EX.row_eq x];refine aR ⟨_,rfl,?_⟩;rfl
  ·rw [if_pos I]
   refine kW ?_;refine kCt ?_ (by rw [decide_eq_false I];rfl);refine kW ?_;refine AK.weak (wN (row:=fun _=>0) (L:= [(2,.ptr 2 0),(4,.ptr 8 0)]) (BL:= [(2,exZ,false),(8,rdC ⟨u,j,i⟩,false)]) ⟨kI,kI,trivial⟩ ⟨kJ,kJ,trivial⟩ rfl rfl trivial) ?_;refine AK.regaE fw0 [] (ar [(2,.ptr 2 0),(3,.int .i64 i)]) ⟨ag [(2,exZ,false)],fun _=>0⟩ ?_ ?_
   ·(repeat' (first|exact trivial|apply aI))
    all_goals exact wN (L:= [(2,.ptr 2 0),(3,.int .i64 i)]) ⟨kI,kI,trivial⟩ ⟨kJ,trivial⟩ rfl rfl trivial
   refine aR ⟨_,rfl,?_⟩;rfl
end
section
set_option maxRecDepth 100000
set_option maxHeartbeats 20000000
def Gw:List Nat:= [2000216,2000213,2000158,2000290,2000289,2000264,2000245,2000215,2000059,2000112,2000058,2000159,2000110,2000105,4000012]
noncomputable def cm:ACode:=bK Tryz.prog Gw Tryz.f105
noncomputable def Dt:AFn:=⟨2,13,cm,[.tmp 4]⟩
theorem eS:aq Tryz.prog Gw Tryz.f105=some Dt:=kk
theorem eT:ab Tryz.prog 105=true:=kk
end
section
open Go.RowKit
abbrev tkT (t:Tok):List AV:= [.bool t.act,.str (toB t.s),.int .i64 (t.at_:Int)]
theorem bh (l:List Tok):Cln (ba l):=fun r hr c g=>by
 obtain ⟨t,_,rfl⟩:=List.mem_map.1 hr;simp only [List.mem_cons,List.not_mem_nil,or_false] at g;rcases g with rfl|rfl|rfl<;>rfl
theorem qf (l:List Tok):RowsOk 3 (ba l):=⟨by omega,fun c g=>by
 obtain ⟨t,_,rfl⟩:=List.mem_map.1 g;exact ⟨rfl,rfl⟩⟩
abbrev fK (l:List Tok) (m:Nat):List AV:=rowB (ba l) m
def tkI (l:List Tok) (i:Nat×Nat):Prop:=l.length≤i.1∧(fK l i.2).length=i.1*3
theorem NV {t:Tok} (h:t.s≠ []):decide (toB t.s=⟨#[]⟩)=false:=by
 rw [bH];cases g:t.s with
 |nil=>exact absurd g h
 |cons _ _=>rfl
theorem NW (t:Tok) (h:t.s= []):MS Tryz.prog 105 [] [.lst .nil 3 [],.agg (tkT t)] [] (.lst .nil 3 []):=by
 have g:=bH t.s;rw [h] at g;refine MS.enterM Tryz.func105 eS eT (by rfl) (by rfl) fun E i=> ?_
 show AK _ _ _ [.c cm] _ _;rw [cm];refine kW ?_;refine kC (fun hb=> ?_) fun hb=> ?_
 ·refine kW ?_
  exact aR ⟨⟨_,rfl,rfl⟩,trivial⟩
 ·rw [h] at hb
  rw [g] at hb;cases hb
theorem NX (t:Tok) (h:t.s≠ []):MSX Tryz.prog 105 [] [.lst .nil 3 [],.agg (tkT t)] (tkI [t]) (fun i=> [(1000001,fK [t] i.2)]) (fun i=> .sli 1000001 3 1 i.1):=by
 have g:=NV h;refine MSX.enter Tryz.func105 eS eT (by rfl) (by rfl) fun E C=> ?_
 show AK _ _ _ [.c cm] _ _;rw [cm];refine kW ?_;refine kC (fun hb=> ?_) fun hb=> ?_
 ·rw [g] at hb
  cases hb
 ·refine kW ?_
  refine kP [.m [] []] ?_ ?_
  ·((repeat' apply aI)<;>first|exact kD|(intro j;refine ⟨?_,kG⟩;(repeat' apply aI)<;>first|exact kD|skip)|skip)
   all_goals first|(show 0<1;omega)|(show 1*32≤140737488355328;omega)|(show 1≤140737488355328;omega)|skip
  refine AK.open 4 12 1000001 rfl (by omega) rfl fun cap m p r=> ?_
  exact aR ⟨(cap,m),⟨p,r⟩,⟨_,rfl,rfl⟩,⟨_,rfl,(bh [t]).told m⟩,trivial⟩
theorem Kt (l:List Tok) (cap m:Nat) (t:Tok):ft [(2000001,fK l m)] [.sli 2000001 3 l.length cap,.agg (tkT t)]=true:=by
 unfold ft;show ((true&&(fK l m).all AV.okIn)&&true)&&true=true;rw [(bh l).okIn];rfl
theorem Mn (l:List Tok) (cap m:Nat) (t:Tok) (h:t.s= []):MS Tryz.prog 105 [(2000001,fK l m)] [.sli 2000001 3 l.length cap,.agg (tkT t)] [(2000001,fK l m)] (.sli 2000001 3 l.length cap):=by
 have g:=bH t.s;rw [h] at g;refine MS.enter Tryz.func105 eS eT (by rfl) (Kt l cap m t) fun E i=> ?_
 show AK _ _ _ [.c cm] _ _;rw [cm];refine kW ?_;refine kC (fun hb=> ?_) fun hb=> ?_
 ·refine kW ?_
  exact aR ⟨⟨_,rfl,rfl⟩,⟨_,rfl,(bh l).told m⟩,trivial⟩
 ·rw [h] at hb
  rw [g] at hb;cases hb
theorem Mo (l:List Tok) (hl:l.length≤1000000) (cap m:Nat) (hi:tkI l (cap,m)) (t:Tok) (h:t.s≠ []):MSX Tryz.prog 105 [(2000001,fK l m)] [.sli 2000001 3 l.length cap,.agg (tkT t)] (tkI (l++ [t])) (fun i=> [(1000001,fK (l++ [t]) i.2)]) (fun i=> .sli 1000001 3 (l++ [t]).length i.1):=by
 have p:=NV h;obtain ⟨r,j⟩:=hi;dsimp only at r j;have hlen:(ba l++ [tkT t]).length=l.length+1:=by rw [gA5,aX];rfl
 have g:ba l++ [tkT t]=ba (l++ [t]):=(oO l t).symm;refine MSX.enter Tryz.func105 eS eT (by rfl) (Kt l cap m t) fun E P=> ?_
 show AK _ _ _ [.c cm] _ _;rw [cm];refine kW ?_;refine kC (fun hb=> ?_) fun hb=> ?_
 ·rw [p] at hb
  cases hb
 ·refine kW ?_
  refine kP [.m (ba l) []] ?_ ?_
  ·((repeat' apply aI)<;>first|exact kD|(intro C;refine ⟨?_,kG⟩;(repeat' apply aI)<;>first|exact kD|skip)|skip)
   all_goals first|exact ⟨_,rfl⟩|exact j|exact (aX l).symm|exact (qf l).2|(rw [aX];show (l.length+1)*32≤140737488355328;omega)|(rw [aX];show l.length+1≤140737488355328;omega)|(show 0<1;omega)|skip
  refine AK.open 4 12 1000001 rfl (by omega) rfl fun cap m I J=> ?_
  have g:ba l++ [[AV.bool t.act,.str (toB t.s),.int .i64 (t.at_:Int)]]=ba (l++ [t]):=g;refine aR ⟨(cap,m),⟨?_,?_⟩,⟨_,rfl,?_⟩,⟨_,rfl,?_⟩,trivial⟩
  ·rw [←aX,←g];exact I
  ·show ((ba (l++ [t])).flatten++_).length=_
   rw [←g];exact J
  ·show AV.sli 1000001 3 (ba l++ [[AV.bool t.act,.str (toB t.s),.int .i64 (t.at_:Int)]]).length cap=_
   rw [g,aX]
  ·show ((ba l++ [[AV.bool t.act,.str (toB t.s),.int .i64 (t.at_:Int)]]).flatten++List.replicate m AV.top).map AV.told=_
   rw [g];exact (bh _).told m
abbrev FK:=Option (Bool×Nat×Nat)
def uj (l:List Tok):FK→Prop
 |none=>l= []
 |some (_,i)=>tkI l i
def tkS (l:List Tok):FK→List (Nat×List AV)
 |none=> []
 |some (false,i)=> [(1000001,fK l i.2)]
 |some (true,i)=> [(1000002,fK l i.2)]
def tkO (l:List Tok):FK→AV
 |none=> .lst .nil 3 []
 |some (false,i)=> .sli 1000001 3 l.length i.1
 |some (true,i)=> .sli 1000002 3 l.length i.1
def tkB (l:List Tok):FK→List (Nat×List AV×Bool)
 |none=> []
 |some (false,i)=> [(1000001,fK l i.2,false)]
 |some (true,i)=> [(1000002,fK l i.2,false)]
theorem xe {l:List Tok} {t:Tok} (h:t.s= []):bz l t=l:=by unfold bz;rw [h]
theorem rV {l:List Tok} {t:Tok} (h:t.s≠ []):bz l t=l++ [t]:=by
 unfold bz;cases g:t.s with
 |nil=>exact absurd g h
 |cons _ _=>rfl
theorem Mq (t:Tok):MSX Tryz.prog 105 [] [.lst .nil 3 [],.agg (tkT t)] (uj (bz [] t)) (tkS (bz [] t)) (tkO (bz [] t)):=by
 by_cases h:t.s= []
 ·rw [xe h]
  exact (NW t h).toY none rfl rfl rfl
 ·rw [rV h]
  exact (NX t h).impY (fun i=>some (false,i)) (fun i hi=>hi) (fun i=>rfl) fun i=>rfl
def xf (i:Nat):Nat:=swY 2000001 1000001 (swY 1000001 1000002 i)
def zl (i:Nat):Nat:=swY 2000001 1000002 i
theorem zm (i j:Nat) (h:xf i=xf j):i=j:=bA _ _ (bA _ _ h)
theorem Du (i:Nat):kd (xf i)=kd i:=by unfold xf;rw [bY (by rfl),bY (by rfl)]
theorem zn (i j:Nat) (h:zl i=zl j):i=j:=bA _ _ h
theorem Dv (i:Nat):kd (zl i)=kd i:=bY (by rfl) i
theorem zo (ρ:Nat→Nat) (q:Nat) (l:List Tok) (m:Nat):qH ρ [(q,fK l m)]= [(ρ q,fK l m)]:=by
 show [(ρ q,(fK l m).map (AV.ren ρ))]=_;rw [(bh l).ren]
theorem Mr (l:List Tok) (hl:l.length≤1000000) (cap m:Nat) (hi:tkI l (cap,m)) (t:Tok):MSX Tryz.prog 105 [(1000001,(fK l m).map AV.told)] [.sli 1000001 3 l.length cap,.agg (tkT t)] (uj (bz l t)) (tkS (bz l t)) (tkO (bz l t)):=by
 rw [(bh l).told];by_cases h:t.s= []
 ·rw [xe h]
  have k:=(Mn l cap m t h).ren xf zm Du;rw [zo] at k;exact k.toY (some (false,cap,m)) hi rfl rfl
 ·rw [rV h]
  have k:=(Mo l hl cap m hi t h).ren xf zm Du;rw [zo] at k;exact k.impY (fun i=>some (true,i)) (fun i hi=>hi) (fun i=>(zo xf 1000001 _ _).symm) fun i=>rfl
theorem Ms (l:List Tok) (hl:l.length≤1000000) (cap m:Nat) (hi:tkI l (cap,m)) (t:Tok):MSX Tryz.prog 105 [(1000002,(fK l m).map AV.told)] [.sli 1000002 3 l.length cap,.agg (tkT t)] (uj (bz l t)) (tkS (bz l t)) (tkO (bz l t)):=by
 rw [(bh l).told];by_cases h:t.s= []
 ·rw [xe h]
  have k:=(Mn l cap m t h).ren zl zn Dv;rw [zo] at k;exact k.toY (some (true,cap,m)) hi rfl rfl
 ·rw [rV h]
  have k:=(Mo l hl cap m hi t h).ren zl zn Dv;rw [zo] at k;exact k.impY (fun i=>some (false,i)) (fun i hi=>hi) (fun i=>(zo zl 1000001 _ _).symm) fun i=>rfl
end
section
set_option maxRecDepth 100000
set_option maxHeartbeats 20000000
def Gx:List Nat:= [2000216,2000213,2000158,2000290,2000289,2000264,2000245,2000215,2000059,2000112,2000058,2000159,2000110,2000105,4000108,5000017,5000029]
noncomputable def yo:ACode:=bK Tryz.prog Gx Tryz.f57
noncomputable def yp:AFn:=⟨1,112,yo,[.tmp 2,.tmp 3]⟩
theorem jF:aq Tryz.prog Gx Tryz.f57=some yp:=kk
theorem jG:ab Tryz.prog 57=true:=kk
end
end Go.Proofs.YtbgflifmanjpjaaGreatDoor
