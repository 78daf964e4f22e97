/- Part 44. -/
import Derived.Test.YtbgflifmanjpjaaGreatDoorS43
set_option linter.unusedSimpArgs false
set_option linter.unusedVariables false
namespace Go.Proofs.YtbgflifmanjpjaaGreatDoor
section
open Go.RowKit
def tkJ (s:Bs):Nat×Bool×List Tok×FK→Fr×St
 |(a,cut,out,f)=>(ar [(0,.str (toB s)),(4,tkO out f),(5,.bool cut),(6,.int .i64 a)],⟨ag (tkB out f),fun _=>0⟩)
theorem Nk (i:Bs):(decide (toB i=⟨#[45]⟩)||([45,32]:Bs).isPrefixOf i)=sK i:=by
 rw [show (⟨#[45]⟩:ByteArray)=toB [45] from rfl];unfold sK;congr 1;rw [Bool.eq_iff_iff,gB0,cK,beq_iff_eq]
theorem Ku {i:Bs} (h:sK i=true):1≤i.length:=by
 cases i with
 |nil=>cases h
 |cons _ _=>simp
theorem Kv {i:Bs} (h:wD i=true):2≤(inA i).length:=by
 unfold wD at h;have:=(List.isSuffixOf_iff_suffix.1 h).length_le;simpa using this
theorem Gy (i:Bs):(inA i).length≤i.length:=by
 unfold inA;split
 ·rw [gA6];omega
 ·exact gA4 _
abbrev wrdA (i:Bs):Bs:=if wD i=true then (inA i).take ((inA i).length-2) else inA i
theorem Dw (i:Bs):(wrdA i).length≤i.length:=by
 have:=Gy i;unfold wrdA;split
 ·rw [gA7];omega
 ·exact this
theorem fq {fr:Fr} {st:St} {L:List (Nat×AV)} {out:List Tok} {f:FK} (j:my st fr L) (g:st=⟨ag (tkB out f),fun _=>0⟩) (p:nM L (tkB out f)=true):Weak fr st (ar L) ⟨ag (tkB out f),fun _=>0⟩:=by
 subst g;refine wN j ?_ rfl p ?_
 ·rcases f with _|⟨_|_,i⟩
  ·trivial
  ·exact ⟨⟨_,rfl,iY _⟩,trivial⟩
  ·exact ⟨⟨_,rfl,iY _⟩,trivial⟩
 ·rcases f with _|⟨_|_,i⟩
  ·trivial
  ·exact ⟨(bh _).noFrs _,trivial⟩
  ·exact ⟨(bh _).noFrs _,trivial⟩
theorem mc (st:St) (q:Nat) (l:List Tok) (cap m:Nat) (hb:st.box q=some (fK l m,true)) (g:cC q=false):AVle1 st (.sli q 3 l.length cap) (.lst .any 3 (ba l)):=by
 rw [←aX l];exact .frz q 3 cap (ba l) (List.replicate m AV.top) hb (qf l) g
theorem rW (ids:List Nat) (g:ids= []∨ids= [1000001]∨ids= [1000002]) (l:List Tok) (j:FK) {i:Nat→Option (List AV×Bool)} (p:bf i (au ids (tkS l j))=true):(okS ids (tkS l j) (tkO l j)&&bf i (au ids (tkS l j)))=true:=by
 rw [p,Bool.and_true];rcases g with rfl|rfl|rfl<;>rcases j with _|⟨_|_,c,m⟩
 all_goals first
  |rfl
  |(show ((_&&((fK l m).all (AV.inS _)&&true))&&_)=true;rw [(bh l).inS];rfl)
theorem Nl (w:Bs):(!([47,42]:Bs).isPrefixOf w|| !Lib.hasSuffix w [42,47]||decide (((toB w).size:Int)<4))= !y4 w:=by
 unfold y4;rw [ae];have e:decide (((w.length:Nat):Int)<4)= !decide (4≤w.length):=by by_cases h:4≤w.length<;>simp [h]<;>omega
 rw [e];cases ([47,42]:Bs).isPrefixOf w<;>cases Lib.hasSuffix w [42,47]<;>simp
set_option maxHeartbeats 8000000 in
theorem Ic (s:Bs) (hl:s.length≤65536):AC Tryz.prog 57 [.str (toB s)] (.tup [.lst .any 3 (ba (cV s).1),.int .i64 (cV s).2]):=by
 have hix:=fun a=>F8 (s.drop a) [123,123] (by rw [gA6];omega)
 refine kE Tryz.func57 jF jG fun E hE=> ?_
 refine kW ?_;refine kC (fun hb=> ?_) fun hb=> ?_
 ·exfalso
  have:(65536:Int)<(toB s).size:=by simpa using hb
  rw [ae] at this;omega
 clear hb;refine kW ?_;refine aJ (tkJ s) (fun x=>x.1≤s.length∧uj x.2.2.1 x.2.2.2∧x.2.2.1.length≤x.1∧ ∃n,s.length<n+x.1∧cV s=resK (oN s n x.1 x.2.1 x.2.2.1)) (fun x=>s.length-x.1) (0,false,[],none) ⟨gB8 _,rfl,gA4 _,s.length+1,by dsimp only;omega,by unfold cV;rw [if_neg (by omega)]⟩ (wN ⟨kI,kI,kI,kI,trivial⟩ trivial rfl rfl trivial) fun ⟨a,cut,out,f⟩ hI=> ?_
 obtain ⟨ha,T,hlen,n,hn,r⟩:=hI;dsimp only at ha T hlen hn r;show AK _ _ _ _ (ar _) _;obtain ⟨n,rfl⟩: ∃n',n=n' +1:=⟨n-1,by omega⟩
 unfold oN at r;refine kW ?_;refine kC (fun hb=> ?_) fun hb=> ?_
 ·have hlt:a<s.length:=by simpa [ae] using hb
  clear hb;rw [if_neg (by omega)] at r;have hix:=hix a;have hrm:=Lib.index_room (s.drop a) [123,123];generalize Lib.index (s.drop a) [123,123]=ix at*;rw [gA6] at hrm;simp only [gA3,List.length_nil] at hrm;refine kW ?_;refine kP [.v (.int .i64 ix)] ?_ ?_
  ·((repeat' apply aI)<;>first|exact kD|(intro P;refine ⟨?_,kG⟩;(repeat' apply aI)<;>first|exact kD|skip)|skip)
   all_goals first|(rw [ae];omega)|(rw [bg];exact hix)|skip
  refine kW ?_;refine kP [] ?_ ?_
  ·((repeat' apply aI)<;>first|exact kD|(intro P;refine ⟨?_,kG⟩;(repeat' apply aI)<;>first|exact kD|skip)|skip)
   all_goals (rw [ae];omega)
  rw [bg];obtain ⟨t,ht⟩: ∃t,t=if ix<0 then s.drop a else (s.drop a).take ix.toNat:=⟨_,rfl⟩
  have htl:t.length≤s.length-a:=by
   rw [ht];split
   ·rw [gA6];exact gA4 _
   ·rw [gA7,gA6];omega
  refine kW ?_;refine AK.cutK (fun _:Unit=>True) (fun _=>ar [(0,.str (toB s)),(4,tkO out f),(5,.bool cut),(6,.int .i64 a),(7,.int .i64 ix),(8,.str (toB t))]) (fun _=>⟨ag (tkB out f),fun _=>0⟩) ?_ fun _ _=> ?_
  ·refine kC (fun hb=> ?_) fun hb=> ?_
   ·have h0:0≤ix:=by simpa using hb
    have hrm:=hrm h0;rw [if_neg (by omega)] at ht;obtain ⟨p,rfl⟩:=Int.eq_ofNat_of_zero_le h0;refine kW ?_;refine kP [] ?_ ?_
    ·((repeat' apply aI)<;>first|exact kD|(intro P;refine ⟨?_,kG⟩;(repeat' apply aI)<;>first|exact kD|skip)|skip)
     all_goals first|omega|(rw [ae,gA6];omega)|skip
    rw [gh _ _ (by rw [gA6];omega),show (s.drop a).take p=t from ht.symm];refine kW ?_;exact cE ⟨(),trivial,fq ⟨kI,kI,kI,kI,kI,kI,trivial⟩ rfl (by rcases f with _|⟨_|_,_,_⟩<;>rfl)⟩
   ·have h0:ix<0:=by simpa using hb
    rw [if_pos h0] at ht;rw [←ht];refine kW ?_;exact cE ⟨(),trivial,fq ⟨kI,kI,kI,kI,kI,kI,trivial⟩ rfl (by rcases f with _|⟨_|_,_,_⟩<;>rfl)⟩
  have hcl:=rD cut t;refine kW ?_;refine AK.cutK (fun _:Unit=>True) (fun _=>ar [(0,.str (toB s)),(4,tkO out f),(6,.int .i64 a),(7,.int .i64 ix),(8,.str (toB (a6 cut t))),(9,.int .i64 ((a+(t.length-(a6 cut t).length):Nat):Int))]) (fun _=>⟨ag (tkB out f),fun _=>0⟩) ?_ fun _ _=> ?_
  ·cases cut with
   |false=>
    refine kCf ?_;refine kW ?_;refine cE ⟨(),trivial,fq ⟨kI,kI,kI,kI,kI,⟨_,rfl,.of_eq (congrArg (AV.int .i64) ?_)⟩,trivial⟩ rfl (by rcases f with _|⟨_|_,_,_⟩<;>rfl)⟩;show (a:Int)=((a+(t.length-t.length):Nat):Int);omega
   |true=>
    have htw:=Dn t
    have hw1:IntKind.i64.wrap ((a:Int)+IntKind.i64.wrap (((toB t).size:Int)-((toB (tlw t)).size:Int)))=((a+(t.length-(tlw t).length):Nat):Int):=by
     have h1:(tlw t).length≤t.length:=hcl;have h2:IntKind.i64.wrap ((t.length:Int)-((tlw t).length:Int))=((t.length-(tlw t).length:Nat):Int):=by rw [aD (by omega) (by omega)];omega
     rw [ae,ae,h2,aD (by omega) (by omega)];omega
    refine kCt ?_;refine kW ?_;refine kQ [.v (.str (toB (tlw t)))] ?_;refine kW ?_;exact cE ⟨(),trivial,fq ⟨kI,kI,kI,kI,kI,⟨_,rfl,.of_eq (congrArg (AV.int .i64) hw1)⟩,trivial⟩ rfl (by rcases f with _|⟨_|_,_,_⟩<;>rfl)⟩
  have hbg:a+(t.length-(a6 cut t).length)≤s.length:=by omega
  obtain ⟨b,hb0⟩: ∃b,b=a+(t.length-(a6 cut t).length):=⟨_,rfl⟩
  rw [←hb0] at hbg⊢;have hrl: ∀k,(s.drop k).length≤s.length:=fun k=>by rw [gA6];omega
  refine kW ?_;refine kC (fun hb=> ?_) fun hb=> ?_
  ·have h0:ix<0:=by simpa using hb
   rw [if_pos h0] at ht r;rw [←ht,←hb0] at r;have r:cV s=(bz out ⟨false,a6 cut t,b⟩,0):=r;rw [r];clear r hb;rcases f with _|⟨_|_,cap,m⟩
   ·have ho:out= []:=T
    subst ho;have hM:=Mq ⟨false,a6 cut t,b⟩;refine kW ?_;refine AK.regs ?_;refine SK.run 4 [] trivial ?_;refine SK.callX (uj (bz [] ⟨false,a6 cut t,b⟩)) (tkS (bz [] ⟨false,a6 cut t,b⟩)) (tkO (bz [] ⟨false,a6 cut t,b⟩)) [] hM (fun j C=>rW [] (by simp) _ j (by rcases j with _|⟨_|_,_,_⟩<;>rfl)) fun j C=> ?_
    rcases j with _|⟨_|_,cap',J⟩
    ·refine SK.all [] trivial ?_
     refine aR ⟨_,rfl,?_⟩;rw [show bz [] ⟨false,a6 cut t,b⟩= [] from C];rfl
    ·refine SK.all [] trivial ?_
     refine AK.fz 1000001 rfl ?_;refine AK.weak (wN (L:= [(2,.lst .any 3 (ba (bz [] ⟨false,a6 cut t,b⟩))),(3,.int .i64 0)]) (BL:= []) ⟨⟨_,rfl,.one (mc _ 1000001 (bz [] ⟨false,a6 cut t,b⟩) cap' J rfl rfl)⟩,kI,trivial⟩ trivial rfl rfl trivial) ?_;exact aR ⟨_,rfl,rfl⟩
    ·refine SK.all [] trivial ?_
     refine AK.fz 1000002 rfl ?_;refine AK.weak (wN (L:= [(2,.lst .any 3 (ba (bz [] ⟨false,a6 cut t,b⟩))),(3,.int .i64 0)]) (BL:= []) ⟨⟨_,rfl,.one (mc _ 1000002 (bz [] ⟨false,a6 cut t,b⟩) cap' J rfl rfl)⟩,kI,trivial⟩ trivial rfl rfl trivial) ?_;exact aR ⟨_,rfl,rfl⟩
   ·have hM:=Mr out (by omega) cap m T ⟨false,a6 cut t,b⟩
    refine kW ?_;refine AK.regs ?_;refine SK.run 4 [] trivial ?_;refine SK.callX (uj (bz out ⟨false,a6 cut t,b⟩)) (tkS (bz out ⟨false,a6 cut t,b⟩)) (tkO (bz out ⟨false,a6 cut t,b⟩)) [1000001] hM (fun j C=>rW [1000001] (by simp) _ j (by rcases j with _|⟨_|_,_,_⟩<;>rfl)) fun j C=> ?_
    rcases j with _|⟨_|_,cap',J⟩
    ·refine SK.all [] trivial ?_
     refine aR ⟨_,rfl,?_⟩;rw [show bz out ⟨false,a6 cut t,b⟩= [] from C];rfl
    ·refine SK.all [] trivial ?_
     refine AK.fz 1000001 rfl ?_;refine AK.weak (wN (L:= [(2,.lst .any 3 (ba (bz out ⟨false,a6 cut t,b⟩))),(3,.int .i64 0)]) (BL:= []) ⟨⟨_,rfl,.one (mc _ 1000001 (bz out ⟨false,a6 cut t,b⟩) cap' J rfl rfl)⟩,kI,trivial⟩ trivial rfl rfl trivial) ?_;exact aR ⟨_,rfl,rfl⟩
    ·refine SK.all [] trivial ?_
     refine AK.fz 1000002 rfl ?_;refine AK.weak (wN (L:= [(2,.lst .any 3 (ba (bz out ⟨false,a6 cut t,b⟩))),(3,.int .i64 0)]) (BL:= []) ⟨⟨_,rfl,.one (mc _ 1000002 (bz out ⟨false,a6 cut t,b⟩) cap' J rfl rfl)⟩,kI,trivial⟩ trivial rfl rfl trivial) ?_;exact aR ⟨_,rfl,rfl⟩
   ·have hM:=Ms out (by omega) cap m T ⟨false,a6 cut t,b⟩
    refine kW ?_;refine AK.regs ?_;refine SK.run 4 [] trivial ?_;refine SK.callX (uj (bz out ⟨false,a6 cut t,b⟩)) (tkS (bz out ⟨false,a6 cut t,b⟩)) (tkO (bz out ⟨false,a6 cut t,b⟩)) [1000002] hM (fun j C=>rW [1000002] (by simp) _ j (by rcases j with _|⟨_|_,_,_⟩<;>rfl)) fun j C=> ?_
    rcases j with _|⟨_|_,cap',J⟩
    ·refine SK.all [] trivial ?_
     refine aR ⟨_,rfl,?_⟩;rw [show bz out ⟨false,a6 cut t,b⟩= [] from C];rfl
    ·refine SK.all [] trivial ?_
     refine AK.fz 1000001 rfl ?_;refine AK.weak (wN (L:= [(2,.lst .any 3 (ba (bz out ⟨false,a6 cut t,b⟩))),(3,.int .i64 0)]) (BL:= []) ⟨⟨_,rfl,.one (mc _ 1000001 (bz out ⟨false,a6 cut t,b⟩) cap' J rfl rfl)⟩,kI,trivial⟩ trivial rfl rfl trivial) ?_;exact aR ⟨_,rfl,rfl⟩
    ·refine SK.all [] trivial ?_
     refine AK.fz 1000002 rfl ?_;refine AK.weak (wN (L:= [(2,.lst .any 3 (ba (bz out ⟨false,a6 cut t,b⟩))),(3,.int .i64 0)]) (BL:= []) ⟨⟨_,rfl,.one (mc _ 1000002 (bz out ⟨false,a6 cut t,b⟩) cap' J rfl rfl)⟩,kI,trivial⟩ trivial rfl rfl trivial) ?_;exact aR ⟨_,rfl,rfl⟩
  have h0:0≤ix:=by
   have: ¬ix<0:=by simpa using hb
   omega
  clear hb;have hrm:=hrm h0;rw [if_neg (by omega)] at ht r;obtain ⟨p,rfl⟩:=Int.eq_ofNat_of_zero_le h0;simp only [Int.toNat_natCast] at ht r;rw [←ht] at r;simp only [←hb0] at r;have hw1:IntKind.i64.wrap ((p:Int)+(a:Int))=((p+a:Nat):Int):=by rw [aD (by omega) (by omega)];omega
  have hw2:IntKind.i64.wrap (((p+a:Nat):Int)+2)=((p+a+2:Nat):Int):=by rw [aD (by omega) (by omega)];omega
  have hcd:=Kl s (p+a+2) (by omega) (by omega);refine kW ?_;rw [hw1];refine kW ?_;refine kP [.v (.int .i64 (clI (ki s (p+a+2))))] ?_ ?_
  ·((repeat' apply aI)<;>first|exact kD|(intro P;refine ⟨?_,kG⟩;(repeat' apply aI)<;>first|exact kD|skip)|skip)
   all_goals (rw [hw2];exact hcd)
  refine kW ?_;cases hc:ki s (p+a+2) with
  |none=>
   rw [hc] at r;have r:cV s=([],21):=r;rw [r];refine kCt ?_;refine kW ?_;exact aR ⟨_,rfl,rfl⟩
  |some e=>
  rw [hc] at r;dsimp only at r;obtain ⟨he1,he2⟩:=wF hc;obtain ⟨i,hi⟩: ∃i,i=(s.take e).drop (p+a+2):=⟨_,rfl⟩
  have hil:i.length≤s.length:=by rw [hi,gA6,gA7];omega
  rw [←hi] at r;have hp:=sB (toB i) (toB [45,32]);rw [kb] at hp;have htr:=NS (a6 cut t) (by omega);have hinl:=Gy i;have hwl:=Dw i;have hsf:=rd (inA i) [32,45] (by omega);have htm:=NT (wrdA i) (by omega);refine kC (fun hb=> ?_) fun hb=> ?_
  ·exfalso
   have:((e:Nat):Int)<0:=gB3 hb;omega
  clear hb;refine kW ?_;refine kP [] ?_ ?_
  ·((repeat' apply aI)<;>first|exact kD|(intro P;refine ⟨?_,kG⟩;(repeat' apply aI)<;>first|exact kD|skip)|skip)
   all_goals first|(rw [hw2];show _≤((e:Nat):Int);omega)|(show ((e:Nat):Int)≤_;rw [ae];omega)|(rw [hw2];omega)|skip
  rw [hw2,show clI (some e)=((e:Nat):Int) from rfl,Int.toNat_natCast,Int.toNat_natCast,Ay s _ _ (by omega),←hi];refine kW ?_;refine kQ [.v (.bool (([45,32]:Bs).isPrefixOf i))] ?_;rw [Nk];obtain ⟨t2,ht2⟩: ∃t2,t2=if sK i=true then trw (a6 cut t) else a6 cut t:=⟨_,rfl⟩
  rw [←ht2] at r;refine AK.cutK (fun _:Unit=>True) (fun _=>ar [(0,.str (toB s)),(4,tkO out f),(7,.int .i64 ((p+a:Nat):Int)),(8,.str (toB t2)),(9,.int .i64 (b:Int)),(11,.int .i64 (e:Int)),(12,.str (toB (inA i)))]) (fun _=>⟨ag (tkB out f),fun _=>0⟩) ?_ fun _ _=> ?_
  ·refine kC (fun hb=> ?_) fun hb=> ?_
   ·have hd1:=Ku hb
    rw [if_pos hb] at ht2;have hin:inA i=i.drop 1:=by unfold inA;rw [if_pos hb]
    refine kW ?_;refine kQ [.v (.str (toB (trw (a6 cut t))))] ?_;refine kW ?_;refine kP [] ?_ ?_
    ·((repeat' apply aI)<;>first|exact kD|(intro P;refine ⟨?_,kG⟩;(repeat' apply aI)<;>first|exact kD|skip)|skip)
     all_goals (rw [ae];omega)
    rw [show ((1:Int)).toNat=1 from rfl,Int.toNat_natCast,fE,←hin,←ht2];refine kW ?_;exact cE ⟨(),trivial,fq ⟨kI,kI,kI,kI,kI,kI,kI,trivial⟩ rfl (by rcases f with _|⟨_|_,_,_⟩<;>rfl)⟩
   ·rw [if_neg (by rw [hb];simp)] at ht2
    have hin:inA i=i:=by unfold inA;rw [if_neg (by rw [hb];simp)]
    rw [←ht2];refine kW ?_;exact cE ⟨(),trivial,fq ⟨kI,kI,kI,kI,kI,kI,⟨_,rfl,.of_eq (by rw [hin])⟩,trivial⟩ rfl (by rcases f with _|⟨_|_,_,_⟩<;>rfl)⟩
  refine kW ?_;refine kQ [.v (.bool (wD i))] ?_;refine kW ?_;refine AK.cutK (fun _:Unit=>True) (fun _=>ar [(0,.str (toB s)),(4,tkO out f),(5,.bool (wD i)),(7,.int .i64 ((p+a:Nat):Int)),(8,.str (toB t2)),(9,.int .i64 (b:Int)),(11,.int .i64 (e:Int)),(12,.str (toB (wrdA i)))]) (fun _=>⟨ag (tkB out f),fun _=>0⟩) ?_ fun _ _=> ?_
  ·cases hca:wD i with
   |true=>
    have hc2:=Kv hca;have hwr:wrdA i=(inA i).take ((inA i).length-2):=by unfold wrdA;rw [if_pos hca]
    have hw3:IntKind.i64.wrap (((toB (inA i)).size:Int)-2)=(((inA i).length-2:Nat):Int):=by rw [ae,aD (by omega) (by omega)];omega
    refine kCt ?_;refine kW ?_;refine kP [] ?_ ?_
    ·((repeat' apply aI)<;>first|exact kD|(intro P;refine ⟨?_,kG⟩;(repeat' apply aI)<;>first|exact kD|skip)|skip)
     all_goals (rw [hw3];first|omega|(rw [ae];omega))
    rw [hw3,gh _ _ (by omega),←hwr];refine kW ?_;exact cE ⟨(),trivial,fq ⟨kI,kI,kI,kI,kI,kI,kI,kI,trivial⟩ rfl (by rcases f with _|⟨_|_,_,_⟩<;>rfl)⟩
   |false=>
    have hwr:wrdA i=inA i:=by unfold wrdA;rw [if_neg (by rw [hca];simp)]
    refine kCf ?_;refine kW ?_;exact cE ⟨(),trivial,fq ⟨kI,kI,kI,kI,kI,kI,kI,⟨_,rfl,.of_eq (by rw [hwr])⟩,trivial⟩ rfl (by rcases f with _|⟨_|_,_,_⟩<;>rfl)⟩
  refine kW ?_;refine AK.cutK (uj (bz out ⟨false,t2,b⟩)) (fun f2=>ar [(0,.str (toB s)),(4,tkO (bz out ⟨false,t2,b⟩) f2),(5,.bool (wD i)),(7,.int .i64 ((p+a:Nat):Int)),(11,.int .i64 (e:Int)),(12,.str (toB (wrdA i)))]) (fun f2=>⟨ag (tkB (bz out ⟨false,t2,b⟩) f2),fun _=>0⟩) ?_ fun f2 U=> ?_
  ·clear r
   rcases f with _|⟨_|_,cap,m⟩
   ·have ho:out= []:=T
    subst ho;have hM:=Mq ⟨false,t2,b⟩;refine kW ?_;refine AK.regs ?_;refine SK.run 4 [] trivial ?_;refine SK.callX (uj (bz [] ⟨false,t2,b⟩)) (tkS (bz [] ⟨false,t2,b⟩)) (tkO (bz [] ⟨false,t2,b⟩)) [] hM (fun j C=>rW [] (by simp) _ j (by rcases j with _|⟨_|_,_,_⟩<;>rfl)) fun j C=> ?_
    rcases j with _|⟨_|_,cap',J⟩
    ·refine SK.all [] trivial ?_
     exact cE ⟨none,C,wN ⟨kI,kI,kI,kI,kI,kI,trivial⟩ trivial rfl rfl trivial⟩
    ·refine SK.all [] trivial ?_
     exact cE ⟨some (false,cap',J),C,wN ⟨kI,kI,kI,kI,kI,kI,trivial⟩ ⟨kJ,trivial⟩ rfl rfl ⟨(bh _).noFrs _,trivial⟩⟩
    ·refine SK.all [] trivial ?_
     exact cE ⟨some (true,cap',J),C,wN ⟨kI,kI,kI,kI,kI,kI,trivial⟩ ⟨kJ,trivial⟩ rfl rfl ⟨(bh _).noFrs _,trivial⟩⟩
   ·have hM:=Mr out (by omega) cap m T ⟨false,t2,b⟩
    refine kW ?_;refine AK.regs ?_;refine SK.run 4 [] trivial ?_;refine SK.callX (uj (bz out ⟨false,t2,b⟩)) (tkS (bz out ⟨false,t2,b⟩)) (tkO (bz out ⟨false,t2,b⟩)) [1000001] hM (fun j C=>rW [1000001] (by simp) _ j (by rcases j with _|⟨_|_,_,_⟩<;>rfl)) fun j C=> ?_
    rcases j with _|⟨_|_,cap',J⟩
    ·refine SK.all [] trivial ?_
     exact cE ⟨none,C,wN ⟨kI,kI,kI,kI,kI,kI,trivial⟩ trivial rfl rfl trivial⟩
    ·refine SK.all [] trivial ?_
     exact cE ⟨some (false,cap',J),C,wN ⟨kI,kI,kI,kI,kI,kI,trivial⟩ ⟨kJ,trivial⟩ rfl rfl ⟨(bh _).noFrs _,trivial⟩⟩
    ·refine SK.all [] trivial ?_
     exact cE ⟨some (true,cap',J),C,wN ⟨kI,kI,kI,kI,kI,kI,trivial⟩ ⟨kJ,trivial⟩ rfl rfl ⟨(bh _).noFrs _,trivial⟩⟩
   ·have hM:=Ms out (by omega) cap m T ⟨false,t2,b⟩
    refine kW ?_;refine AK.regs ?_;refine SK.run 4 [] trivial ?_;refine SK.callX (uj (bz out ⟨false,t2,b⟩)) (tkS (bz out ⟨false,t2,b⟩)) (tkO (bz out ⟨false,t2,b⟩)) [1000002] hM (fun j C=>rW [1000002] (by simp) _ j (by rcases j with _|⟨_|_,_,_⟩<;>rfl)) fun j C=> ?_
    rcases j with _|⟨_|_,cap',J⟩
    ·refine SK.all [] trivial ?_
     exact cE ⟨none,C,wN ⟨kI,kI,kI,kI,kI,kI,trivial⟩ trivial rfl rfl trivial⟩
    ·refine SK.all [] trivial ?_
     exact cE ⟨some (false,cap',J),C,wN ⟨kI,kI,kI,kI,kI,kI,trivial⟩ ⟨kJ,trivial⟩ rfl rfl ⟨(bh _).noFrs _,trivial⟩⟩
    ·refine SK.all [] trivial ?_
     exact cE ⟨some (true,cap',J),C,wN ⟨kI,kI,kI,kI,kI,kI,trivial⟩ ⟨kJ,trivial⟩ rfl rfl ⟨(bh _).noFrs _,trivial⟩⟩
  have hal:=wG out ⟨false,t2,b⟩;generalize bz out ⟨false,t2,b⟩=g at*;refine kW ?_;refine kQ [.v (.str (toB (cEz i)))] ?_;have hp2:=sB (toB (cEz i)) (toB [47,42]);rw [kb] at hp2;have hwl2:(cEz i).length≤s.length:=gB7 (Gb _) (gB7 hwl hil);have hs2:=rd (cEz i) [42,47] (by omega);refine kW ?_;refine kQ [.v (.bool (([47,42]:Bs).isPrefixOf (cEz i))),.v (.bool (Lib.hasSuffix (cEz i) [42,47]))] ?_;rw [Nl];obtain ⟨I,ho2⟩: ∃I,I=if y4 (cEz i)=true then g else g++ [⟨true,cEz i,p+a⟩]:=⟨_,rfl⟩
  rw [←ho2] at r;have hol2:I.length≤g.length+1:=by rw [ho2];split<;>simp
  refine AK.cutK (uj I) (fun f3=>ar [(0,.str (toB s)),(4,tkO I f3),(5,.bool (wD i)),(11,.int .i64 (e:Int))]) (fun f3=>⟨ag (tkB I f3),fun _=>0⟩) ?_ fun f3 hok3=> ?_
  ·refine kC (fun hb=> ?_) fun hb=> ?_
   ·have hno:y4 (cEz i)=false:=by simpa using hb
    rw [if_neg (by rw [hno];simp)] at ho2;subst ho2;clear hb r;refine kW ?_;rcases f2 with _|⟨_|_,cap0,m0⟩
    ·have ho:g= []:=U
     refine kP [.m [] []] ?_ ?_
     ·((repeat' apply aI)<;>first|exact kD|(intro P;refine ⟨?_,kG⟩;(repeat' apply aI)<;>first|exact kD|skip)|skip)
      all_goals first|(show 0<1;omega)|(show 1*32≤140737488355328;omega)|(show 1≤140737488355328;omega)|skip
     refine cO 4 108 1000001 rfl (by omega) rfl fun cap m h1 h2=> ?_
     exact ⟨some (false,cap,m),by rw [ho];exact ⟨h1,h2⟩,wN ⟨kI,⟨_,rfl,.of_eq (by rw [ho];rfl)⟩,kI,kI,trivial⟩ ⟨⟨_,rfl,aJz (by rw [ho];rfl)⟩,trivial⟩ rfl rfl ⟨(bh _).noFrs _,trivial⟩⟩
    ·obtain ⟨q1,q2⟩:=U
     dsimp only at q1 q2;refine kP [.m (ba g) []] ?_ ?_
     ·((repeat' apply aI)<;>first|exact kD|(intro P;refine ⟨?_,kG⟩;(repeat' apply aI)<;>first|exact kD|skip)|skip)
      all_goals first|exact ⟨_,rfl⟩|exact q2|exact (aX g).symm|exact (qf g).2|(rw [aX];show (g.length+1)*32≤140737488355328;omega)|(rw [aX];show g.length+1≤140737488355328;omega)|(show 0<1;omega)|skip
     refine cO 4 108 1000001 rfl (by omega) rfl fun cap m h1 h2=> ?_
     have R:ba g++ [[AV.bool true,.str (toB (cEz i)),.int .i64 ((p+a:Nat):Int)]]=ba (g++ [⟨true,cEz i,p+a⟩]):=(oO g ⟨true,cEz i,p+a⟩).symm;refine ⟨some (false,cap,m),⟨?_,?_⟩,wN ⟨kI,⟨_,rfl,.of_eq ?_⟩,kI,kI,trivial⟩ ⟨⟨_,rfl,aJz ?_⟩,trivial⟩ rfl rfl ⟨(bh _).noFrs _,trivial⟩⟩
     ·rw [←aX,←R];exact h1
     ·show ((ba (g++ [⟨true,cEz i,p+a⟩])).flatten++_).length=_
      rw [←R];exact h2
     ·show AV.sli 1000001 3 (ba g++ [[AV.bool true,.str (toB (cEz i)),.int .i64 ((p+a:Nat):Int)]]).length cap=_
      rw [R,aX];rfl
     ·show (ba g++ [[AV.bool true,.str (toB (cEz i)),.int .i64 ((p+a:Nat):Int)]]).flatten++_=_
      rw [R]
    ·obtain ⟨q1,q2⟩:=U
     dsimp only at q1 q2;refine kP [.m (ba g) []] ?_ ?_
     ·((repeat' apply aI)<;>first|exact kD|(intro P;refine ⟨?_,kG⟩;(repeat' apply aI)<;>first|exact kD|skip)|skip)
      all_goals first|exact ⟨_,rfl⟩|exact q2|exact (aX g).symm|exact (qf g).2|(rw [aX];show (g.length+1)*32≤140737488355328;omega)|(rw [aX];show g.length+1≤140737488355328;omega)|(show 0<1;omega)|skip
     refine cO 4 108 1000001 rfl (by omega) rfl fun cap m h1 h2=> ?_
     have R:ba g++ [[AV.bool true,.str (toB (cEz i)),.int .i64 ((p+a:Nat):Int)]]=ba (g++ [⟨true,cEz i,p+a⟩]):=(oO g ⟨true,cEz i,p+a⟩).symm;refine ⟨some (false,cap,m),⟨?_,?_⟩,wN ⟨kI,⟨_,rfl,.of_eq ?_⟩,kI,kI,trivial⟩ ⟨⟨_,rfl,aJz ?_⟩,trivial⟩ rfl rfl ⟨(bh _).noFrs _,trivial⟩⟩
     ·rw [←aX,←R];exact h1
     ·show ((ba (g++ [⟨true,cEz i,p+a⟩])).flatten++_).length=_
      rw [←R];exact h2
     ·show AV.sli 1000001 3 (ba g++ [[AV.bool true,.str (toB (cEz i)),.int .i64 ((p+a:Nat):Int)]]).length cap=_
      rw [R,aX];rfl
     ·show (ba g++ [[AV.bool true,.str (toB (cEz i)),.int .i64 ((p+a:Nat):Int)]]).flatten++_=_
      rw [R]
   ·have hno:y4 (cEz i)=true:=by simpa using hb
    rw [if_pos hno] at ho2;subst ho2;refine kW ?_;exact cE ⟨f2,U,fq ⟨kI,kI,kI,kI,trivial⟩ rfl (by rcases f2 with _|⟨_|_,_,_⟩<;>rfl)⟩
  have hw4:IntKind.i64.wrap (((e:Nat):Int)+2)=((e+2:Nat):Int):=by rw [aD (by omega) (by omega)];omega
  refine kW ?_;exact AK.lp ⟨(e+2,wD i,I,f3),⟨he2,hok3,by dsimp only;omega,n,by dsimp only;omega,r⟩,fq ⟨kI,kI,kI,⟨_,rfl,.of_eq (congrArg (AV.int .i64) hw4)⟩,trivial⟩ rfl (by rcases f3 with _|⟨_|_,_,_⟩<;>rfl),by dsimp only;omega⟩
 ·have hge:s.length≤a:=by simpa [ae] using hb
  rw [if_pos hge] at r;have r:cV s=(out,0):=r;rw [r];clear hb r;refine AK.exit rfl ?_;rcases f with _|⟨_|_,cap',J⟩
  ·have ho:out= []:=T
   subst ho;refine kW ?_;exact aR ⟨_,rfl,rfl⟩
  ·refine kW ?_
   refine AK.fz 1000001 rfl ?_;refine AK.weak (wN (L:= [(2,.lst .any 3 (ba out)),(3,.int .i64 0)]) (BL:= []) ⟨⟨_,rfl,.one (mc _ 1000001 (out) cap' J rfl rfl)⟩,kI,trivial⟩ trivial rfl rfl trivial) ?_;exact aR ⟨_,rfl,rfl⟩
  ·refine kW ?_
   refine AK.fz 1000002 rfl ?_;refine AK.weak (wN (L:= [(2,.lst .any 3 (ba out)),(3,.int .i64 0)]) (BL:= []) ⟨⟨_,rfl,.one (mc _ 1000002 (out) cap' J rfl rfl)⟩,kI,trivial⟩ trivial rfl rfl trivial) ?_;exact aR ⟨_,rfl,rfl⟩
theorem Kw (s:Bs) (hl:s.length≤140737488355328):AC Tryz.prog 57 [.str (toB s)] (.tup [.lst .any 3 (ba (cV s).1),.int .i64 (cV s).2]):=by
 by_cases h:s.length≤65536
 ·exact Ic s h
 ·have g:cV s=([],6):=by unfold cV;rw [if_pos (by omega)]
  rw [g];refine kE Tryz.func57 jF jG fun E i=> ?_
  refine kW ?_;refine kC (fun hb=> ?_) fun hb=> ?_
  ·refine kW ?_
   exact aR ⟨_,rfl,rfl⟩
  ·exfalso
   have: ¬(65536:Int)<(toB s).size:=by simpa using hb
   rw [ae] at this;omega
end
section
set_option maxRecDepth 100000
set_option maxHeartbeats 20000000
def d9:List Nat:= [2000216,2000213,2000158,2000290,2000289,2000264,2000245,2000215,2000059,2000112,2000058,2000159,2000110,2000105]
noncomputable def el:ACode:=bK Tryz.prog d9 Tryz.f59
noncomputable def o5:AFn:=⟨2,21,el,[]⟩
theorem lw:aq Tryz.prog d9 Tryz.f59=some o5:=kk
theorem lx:ab Tryz.prog 59=true:=kk
noncomputable def em:ACode:=bK Tryz.prog d9 Tryz.f112
noncomputable def o6:AFn:=⟨2,18,em,[.cell 4 10 true]⟩
theorem ly:aq Tryz.prog d9 Tryz.f112=some o6:=kk
theorem lz:ab Tryz.prog 112=true:=kk
noncomputable def dQ:ACode:=bK Tryz.prog d9 Tryz.f58
noncomputable def nB:AFn:=⟨1,97,dQ,[.tmp 2,.tmp 3,.tmp 4]⟩
theorem kM:aq Tryz.prog d9 Tryz.f58=some nB:=kk
theorem kO:ab Tryz.prog 58=true:=kk
noncomputable def en:ACode:=bK Tryz.prog d9 Tryz.f159
noncomputable def o7:AFn:=⟨3,115,en,[.cell 6 16 true]⟩
theorem lA:aq Tryz.prog d9 Tryz.f159=some o7:=kk
theorem lB:ab Tryz.prog 159=true:=kk
noncomputable def dR:ACode:=bK Tryz.prog d9 Tryz.f110
noncomputable def nC:AFn:=⟨3,106,dR,[.cell 6 16 true]⟩
theorem kT:aq Tryz.prog d9 Tryz.f110=some nC:=kk
theorem kV:ab Tryz.prog 110=true:=kk
noncomputable def yq:ACode:=bK Tryz.prog d9 Tryz.f25
noncomputable def yr:AFn:=⟨1,41,yq,[.tmp 2,.tmp 3]⟩
theorem rX:aq Tryz.prog d9 Tryz.f25=some yr:=kk
theorem rY:ab Tryz.prog 25=true:=kk
end
end Go.Proofs.YtbgflifmanjpjaaGreatDoor
