/- Part 41. -/
import Derived.Test.YtbgflifmanjpjaaGreatDoorS40
set_option linter.unusedSimpArgs false
set_option linter.unusedVariables false
namespace Go.Proofs.YtbgflifmanjpjaaGreatDoor
section
open Go.RowKit
theorem Ia (n:Nat) (hp:PP n):PO (n+1):=fun ⟨s,j,i⟩ x ok r' hl hn g=>by
 have hl:s.length≤1000000:=hl;have hn:4*s.length+1≤n+1:=hn;have hsk:=mN ⟨s,j,i⟩;have htl:=cL s;refine MSX.enterE Tryz.func264 gX gY (by rfl) (by rfl) fun E hE=> ?_
 show AK _ _ _ [.c cA] _ _;rw [cA];rw [exF] at g;have esk:(⟨s,j,i⟩:RD).skip=⟨tlw s,j,i⟩:=rfl;rw [esk] at hsk g;simp only [RD.fail,RD.to] at g;generalize tlw s=u at g htl hsk;refine kW ?_;refine kQ [.s [2000000] (rdS ⟨u,j,i⟩) (.tup [])] ?_;refine kW ?_;cases u with
 |nil=>
  dsimp only at g;cases g;refine kCt ?_ (by rfl);refine kW ?_;exact aR ⟨none,rfl,⟨_,rfl,rfl⟩,⟨_,rfl,rfl⟩,trivial⟩
 |cons c t=>
  rw [gA3] at htl;dsimp only at g;refine kC (fun hb=> ?_) fun hb=> ?_
  ·exfalso
   rw [bH] at hb;cases hb
  clear hb;refine kW ?_;refine kP [] ?_ ?_
  ·((repeat' apply aI)<;>first|exact kD|(intro r;refine ⟨?_,kG⟩;(repeat' apply aI)<;>first|exact kD|skip)|skip)
   all_goals (rw [ae,gA3];omega)
  rw [Kq];refine kW ?_;refine kC (fun hb=> ?_) fun hb=> ?_
  ·have p:c=34:=LZ 34 (by omega) hb
   rw [if_pos p] at g;clear hb;have huq:=jf (toB (c::t)) (by rw [ae,gA3];omega);rw [show unq (toB (c::t))=lU (c::t) from rfl] at huq;rcases hu:lU (c::t) with _|⟨y,rest⟩
   ·rw [hu] at g huq
    dsimp only at g;cases g;have hfl:=iz ⟨c::t,j,i⟩ 11;refine kW ?_;refine kQ [.v (.tup [.str ⟨#[]⟩,.str ⟨#[]⟩,.int .i64 11])] ?_;refine kW ?_;refine kCt ?_;refine kW ?_;refine kQ [.s [2000000] (rdS ⟨[],j,if i=0 then 11 else i⟩) (exN EX.null)] ?_;exact aR ⟨none,rfl,⟨_,rfl,rfl⟩,⟨_,rfl,rfl⟩,trivial⟩
   ·rw [hu] at g huq
    dsimp only at g;cases g;have I:=ep (toB y);refine kW ?_;refine kQ [.v (.tup [.str (toB y),.str (toB rest),.int .i64 0])] ?_;refine kW ?_;refine kCf ?_;refine kW ?_;refine kQ [.v (vA (V.str (toB y)))] ?_;exact aR ⟨none,rfl,⟨_,rfl,rfl⟩,⟨_,rfl,rfl⟩,trivial⟩
  have n34: ¬c=34:=L0 34 (by omega) hb;rw [if_neg n34] at g;clear hb;refine AK.weak (wN (L:= [(0,.np 2000000 0),(2,.ptr 2 0),(4,.int .u8 c.toNat)]) (BL:= [(2,exZ,false),(2000000,rdC ⟨c::t,j,i⟩,false)]) ⟨kI,kI,kI,trivial⟩ ⟨kJ,kJ,trivial⟩ rfl rfl ⟨rfl,trivial⟩) ?_;refine kW ?_;refine kQ [] ?_;rw [Of];refine kC (fun hb=> ?_) fun hb=> ?_
  ·have p:c=45∨ya c=true:=by simpa using hb
   rw [if_pos p] at g;cases g;clear hb;have hnm:=H9 ⟨c::t,j,i⟩ (by show (c::t).length≤_;rw [gA3];omega) rfl;refine kW ?_;refine kQ [.s [2000000] (rdS (rE ⟨c::t,j,i⟩).2) (exN (rE ⟨c::t,j,i⟩).1)] ?_;have P:=List.eq_nil_of_length_eq_zero (Dl ⟨c::t,j,i⟩ rfl).1;exact aR ⟨none,P,⟨_,rfl,rfl⟩,⟨_,rfl,rfl⟩,trivial⟩
  have n45: ¬(c=45∨ya c=true):=by simpa using hb
  rw [if_neg n45] at g;clear hb;refine kW ?_;refine kC (fun hb=> ?_) fun hb=> ?_
  ·have p:c=46:=LZ 46 (by omega) hb
   rw [if_pos p] at g;clear hb;have I:=Dq ⟨c::t,j,i⟩ (by show (c::t).length≤_;rw [gA3];omega);have J:=Fi (n:=(c::t).length) (s:=c::t);refine kW ?_;refine kQ [.s [2000000] (rdS ⟨(bi (c::t).length (c::t)).2,j,i⟩) (.lst .any 1 (aRz (bi (c::t).length (c::t)).1))] ?_;generalize bi (c::t).length (c::t)=w at g J⊢;clear I;obtain ⟨l,rest⟩:=w;dsimp only at g J;refine kW ?_;refine kC (fun hb=> ?_) fun hb=> ?_
   ·have P:l= []:=by
     have:(aRz l).length=0:=by simpa using hb
     rw [bm] at this;exact List.eq_nil_of_length_eq_zero this
    clear hb;have hr:=J P;subst P;subst hr;rw [if_pos rfl] at g;cases g;refine kW ?_;refine kP [] ?_ ?_
    ·((repeat' apply aI)<;>first|exact kD|(intro r;refine ⟨?_,kG⟩;(repeat' apply aI)<;>first|exact kD|skip)|skip)
     all_goals (rw [ae,gA3];omega)
    rw [show ((1:Int)).toNat=((1:Nat):Int).toNat from rfl,bg,show (c::t).drop 1=t from rfl];refine kW ?_;exact aR ⟨none,rfl,⟨_,rfl,rfl⟩,⟨_,rfl,rfl⟩,trivial⟩
   ·have P: ¬l= []:=by
     intro h;subst h;cases hb
    clear hb;rw [if_neg P] at g;cases g;refine kW ?_;exact aR ⟨none,rfl,⟨_,rfl,rfl⟩,⟨_,rfl,rfl⟩,trivial⟩
  have n46: ¬c=46:=L0 46 (by omega) hb;rw [if_neg n46] at g;clear hb;refine kW ?_;refine kC (fun hb=> ?_) fun hb=> ?_
  ·have p:c=36:=LZ 36 (by omega) hb
   rw [if_pos p] at g;clear hb;have hnm:=gk ⟨t,j,i⟩ (by show t.length≤_;omega);refine kW ?_;refine kP [] ?_ ?_
   ·((repeat' apply aI)<;>first|exact kD|(intro r;refine ⟨?_,kG⟩;(repeat' apply aI)<;>first|exact kD|skip)|skip)
    all_goals (rw [ae,gA3];omega)
   rw [show ((1:Int)).toNat=((1:Nat):Int).toNat from rfl,bg,show (c::t).drop 1=t from rfl];refine kW ?_;refine kQ [.s [2000000] (rdS ⟨t.drop (nmL t).length,j,i⟩) (.str (toB (nmL t)))] ?_;refine kW ?_;rw [bH (nmL t)];refine kC (fun hb=> ?_) fun hb=> ?_
   ·have P:nmL t= []:=by simpa using hb
    clear hb;rw [if_pos P] at g;cases g;have hfl:=iz ⟨t.drop (nmL t).length,j,i⟩ 20;refine kW ?_;refine kQ [.s [2000000] (rdS ⟨[],j,if i=0 then 20 else i⟩) (exN EX.null)] ?_;exact aR ⟨none,rfl,⟨_,rfl,rfl⟩,⟨_,rfl,rfl⟩,trivial⟩
   ·have P: ¬nmL t= []:=by simpa using hb
    clear hb;rw [if_neg P] at g;have hl2:(t.drop (nmL t).length).length≤t.length:=by rw [gA6];omega
    have I:=Dq ⟨t.drop (nmL t).length,j,i⟩ (by show (t.drop (nmL t).length).length≤_;omega);dsimp only at I;rw [sR (m:=t.length) (gA4 _) hl2] at I;cases g;refine kW ?_;refine kQ [.s [2000000] (rdS ⟨(bi t.length (t.drop (nmL t).length)).2,j,i⟩) (.lst .any 1 (aRz (bi t.length (t.drop (nmL t).length)).1))] ?_;refine kW ?_;exact aR ⟨none,rfl,⟨_,rfl,rfl⟩,⟨_,rfl,rfl⟩,trivial⟩
  have n36: ¬c=36:=L0 36 (by omega) hb;rw [if_neg n36] at g;clear hb;refine kW ?_;refine kC (fun hb=> ?_) fun hb=> ?_
  ·have p:c=40:=LZ 40 (by omega) hb
   rw [if_pos p] at g;clear hb;refine kW ?_;refine kC (fun hb=> ?_) fun hb=> ?_
   ·have h16:16<IntKind.i64.wrap (j+1):=by simpa using hb
    clear hb;rw [if_pos h16] at g;cases g;have hfl:=iz ⟨c::t,IntKind.i64.wrap (j+1),i⟩ 5;refine kW ?_;refine kQ [.s [2000000] (rdS ⟨[],IntKind.i64.wrap (j+1),if i=0 then 5 else i⟩) (exN EX.null)] ?_;exact aR ⟨none,rfl,⟨_,rfl,rfl⟩,⟨_,rfl,rfl⟩,trivial⟩
   have h16: ¬16<IntKind.i64.wrap (j+1):=by simpa using hb
   clear hb;rw [if_neg h16] at g;refine kW ?_;refine kP [] ?_ ?_
   ·((repeat' apply aI)<;>first|exact kD|(intro r;refine ⟨?_,kG⟩;(repeat' apply aI)<;>first|exact kD|skip)|skip)
    all_goals (rw [ae,gA3];omega)
   rw [show ((1:Int)).toNat=((1:Nat):Int).toNat from rfl,bg,show (c::t).drop 1=t from rfl];refine kW ?_;rcases hy:exF n .pipe ⟨t,IntKind.i64.wrap (j+1),i⟩ with ⟨y,by_,⟨T,R,C⟩⟩
   rw [hy] at g;dsimp only at g;have hM:=hp ⟨t,IntKind.i64.wrap (j+1),i⟩ y by_ ⟨T,R,C⟩ (by show t.length≤_;omega) (by show 4*t.length+3≤n;omega) hy;have U:=mN ⟨T,R,C⟩;rw [show (⟨T,R,C⟩:RD).skip=⟨tlw T,R,C⟩ from rfl] at U
   have hl1:T.length≤1000000:=by
    have:=(bN n .pipe ⟨t,IntKind.i64.wrap (j+1),i⟩).1;rw [hy] at this;have:y.args.length+T.length≤0+t.length:=this;omega
   have hl2:=cL T;generalize tlw T=u at g U hl2;have hpr:=fg u 41;have hfl:=iz ⟨u,R,C⟩ 20
   have hcase:(bE 41 u=false∧(x,ok,r')=(EX.null,true,(⟨[],R,if C=0 then 20 else C⟩:RD)))∨ ∃u',u=41::u' ∧(x,ok,r')=(y,true,(⟨u',IntKind.i64.wrap (R-1),C⟩:RD)):=by
    cases u with
    |nil=>exact .inl ⟨rfl,g.symm⟩
    |cons d u' =>
     dsimp only at g;by_cases hd:d=41
     ·rw [if_pos hd] at g
      exact .inr ⟨u',by rw [hd],g.symm⟩
     ·rw [if_neg hd] at g
      exact .inl ⟨by simpa [bE] using hd,g.symm⟩
   clear g;refine AK.regs ?_;refine SK.run 1 [] trivial ?_;refine SK.callX (lv y.args) (fun f=>rdS ⟨T,R,C⟩++exS 1000001 1000002 y.args f) (fun f=>exG 1000001 1000002 y f) [2000000] hM (fun f hf=>A6 _ y f (by rcases f with _|⟨_|_,c,m⟩<;>rfl)) fun f hf=> ?_
   rcases f with _|⟨_|_,cap,m⟩
   all_goals
    refine SK.all [] trivial ?_;refine kW ?_;refine kQ [.s [2000000] (rdS ⟨u,R,C⟩) (.tup [])] ?_;refine kW ?_;refine kQ [.v (.bool (bE 41 u))] ?_;rcases hcase with ⟨hh,g⟩|⟨u',rfl,g⟩
    ·cases g
     rw [hh];refine kCt ?_;refine kW ?_;refine kQ [.s [2000000] (rdS ⟨[],R,if C=0 then 20 else C⟩) (exN EX.null)] ?_;exact aR ⟨none,rfl,⟨_,rfl,rfl⟩,⟨_,rfl,rfl⟩,trivial⟩
    ·cases g
     refine kCf ?_ (by rfl);refine kW ?_;refine kP [] ?_ ?_
     ·((repeat' apply aI)<;>first|exact kD|(intro r;refine ⟨?_,kG⟩;(repeat' apply aI)<;>first|exact kD|skip)|skip)
      all_goals (rw [ae,gA3];omega)
     rw [show ((1:Int)).toNat=((1:Nat):Int).toNat from rfl,bg,show (41::u').drop 1=u' from rfl];refine kW ?_
     first
      |exact aR ⟨none,hf,⟨_,rfl,rfl⟩,⟨_,rfl,rfl⟩,trivial⟩
      |exact aR ⟨some (false,cap,m),hf,⟨_,rfl,rfl⟩,⟨_,rfl,rfl⟩,⟨_,rfl,(al _).told m⟩,trivial⟩
      |exact aR ⟨some (true,cap,m),hf,⟨_,rfl,rfl⟩,⟨_,rfl,rfl⟩,⟨_,rfl,(al _).told m⟩,trivial⟩
  have n40: ¬c=40:=L0 40 (by omega) hb;rw [if_neg n40] at g;clear hb;have hlt:=jA c;refine kW ?_;refine kQ [.v (.bool (hZ c))] ?_;refine kW ?_;refine kC (fun hb=> ?_) fun hb=> ?_
  ·rw [if_pos hb] at g
   clear hb hlt;have hnm:=gk ⟨c::t,j,i⟩ (by show (c::t).length≤_;rw [gA3];omega);refine kW ?_;refine kQ [.s [2000000] (rdS ⟨(c::t).drop (nmL (c::t)).length,j,i⟩) (.str (toB (nmL (c::t))))] ?_;refine kW ?_;generalize nmL (c::t)=w at g⊢;clear hnm;refine AK.weak (wN (L:= [(0,.np 2000000 0),(2,.ptr 2 0),(11,.str (toB (c::t))),(165,.str (toB w)),(170,.bool (decide (w=wTr)))]) (BL:= [(2,exZ,false),(2000000,[.str (toB ((c::t).drop w.length)),.int .i64 j,.int .i64 i],false)]) ⟨kI,kI,kI,kI,⟨_,rfl,.of_eq (congrArg AV.bool (decide_eq_decide.2 (cK (b:=wTr))))⟩,trivial⟩ ⟨kJ,kJ,trivial⟩ rfl rfl ⟨rfl,trivial⟩) ?_;by_cases p:w=wTr
   ·rw [if_pos (.inl p)] at g
    cases g;rw [decide_eq_true p];refine kCt ?_;refine kW ?_;refine kCt ?_;have hB:=j3 (c==116);refine kW ?_;refine kP [.v (vA (V.bool (c==116)))] ?_ ?_
    ·((repeat' apply aI)<;>first|exact kD|(intro r;refine ⟨?_,kG⟩;(repeat' apply aI)<;>first|exact kD|skip)|skip)
     all_goals first|(rw [ae,gA3];omega)|(rw [Kq,show ((116:Int))=((116:Nat):Int) from rfl,eH c 116 (by omega)];exact hB)
    exact aR ⟨none,rfl,⟨_,rfl,rfl⟩,⟨_,rfl,rfl⟩,trivial⟩
   rw [decide_eq_false p];refine kCf ?_;refine kW ?_;rw [show decide (toB w=⟨#[102,97,108,115,101]⟩)=decide (w=wFa) from decide_eq_decide.2 (cK (b:=wFa))];by_cases h2:w=wFa
   ·rw [if_pos (.inr h2)] at g
    cases g;rw [decide_eq_true h2];refine kCt ?_;have hB:=j3 (c==116);refine kW ?_;refine kP [.v (vA (V.bool (c==116)))] ?_ ?_
    ·((repeat' apply aI)<;>first|exact kD|(intro r;refine ⟨?_,kG⟩;(repeat' apply aI)<;>first|exact kD|skip)|skip)
     all_goals first|(rw [ae,gA3];omega)|(rw [Kq,show ((116:Int))=((116:Nat):Int) from rfl,eH c 116 (by omega)];exact hB)
    exact aR ⟨none,rfl,⟨_,rfl,rfl⟩,⟨_,rfl,rfl⟩,trivial⟩
   rw [if_neg (by rintro (h|h);exact p h;exact h2 h)] at g;rw [decide_eq_false h2];refine kCf ?_;refine kW ?_;rw [show decide (toB w=⟨#[110,105,108]⟩)=decide (w=wNi) from decide_eq_decide.2 (cK (b:=wNi))];by_cases h3:w=wNi
   ·rw [if_pos h3] at g
    cases g;rw [decide_eq_true h3];refine kCt ?_;refine kW ?_;exact aR ⟨none,rfl,⟨_,rfl,rfl⟩,⟨_,rfl,rfl⟩,trivial⟩
   rw [if_neg h3] at g;cases g;rw [decide_eq_false h3];refine kCf ?_;refine kW ?_;exact aR ⟨none,rfl,⟨_,rfl,rfl⟩,⟨_,rfl,rfl⟩,trivial⟩
  ·rw [if_neg (by rw [hb];decide)] at g
   cases g;refine kW ?_;exact aR ⟨none,rfl,⟨_,rfl,rfl⟩,⟨_,rfl,rfl⟩,trivial⟩
end
section
set_option maxRecDepth 100000
set_option maxHeartbeats 20000000
def Gs:List Nat:= [2000216,2000213,2000158,2000290,2000289,2000264,2000245,2000215,2000059,2000112,2000058,2000159,2000110,2000105,4000054,5000001,5000008]
noncomputable def cB:ACode:=bK Tryz.prog Gs Tryz.f245
noncomputable def jC:AFn:=⟨1,56,cB,[.cell 2 10 true]⟩
theorem g5:aq Tryz.prog Gs Tryz.f245=some jC:=kk
theorem g6:ab Tryz.prog 245=true:=kk
end
end Go.Proofs.YtbgflifmanjpjaaGreatDoor
