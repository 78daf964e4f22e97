/- Part 40. -/
import Derived.Test.YtbgflifmanjpjaaGreatDoorS39
import Derived.Shelf.Strings.SlTrimAscii
set_option linter.unusedSimpArgs false
set_option linter.unusedVariables false
namespace Go.Proofs.YtbgflifmanjpjaaGreatDoor
section
open Go.RowKit
theorem AC.ofB2 {f:FuncId} {x y:ByteArray} {v:Value} {r:AV} (g:ab Tryz.prog f=true) (hr: ∀σ,RelR σ v r) (h: ∀w,Calls Tryz.prog f #[.string x,.string y] w fun e w' =>e= .returned v∧Below w.heap.size w w'):AC Tryz.prog f [.str x,.str y] r:=by
 refine ⟨g,fun σ w vs C i hg=> ?_⟩;obtain ⟨v1,v2,rfl,j,p⟩:=pM i;have j:Rel1 σ v1 (.str x):=j;have p:Rel1 σ v2 (.str y):=p;cases j;cases p;refine (h w).mono ?_;rintro e w' ⟨rfl,hb⟩;exact ⟨σ,_,rfl,Ext.refl _ _,C.on hb,hb,hr σ⟩
theorem Ni: ∀(j:Nat) b,(ByteArray.mk #[32,9,10]).data.toList[j]? =some b→b.toNat<128:=Go.Proofs.ascii_of_all (by decide)
theorem Dn (l:Bs):AC Tryz.prog 89 [.str (toB l),.str ⟨#[32,9,10]⟩] (.str (toB (tlw l))):=
 AC.ofB2 (by kernel_rfl) (fun _=>Rel1.str _) fun w=>Any.strings_TrimLeft_laid Tryz.lays161 (by kernel_rfl) (toB l) ⟨#[32,9,10]⟩ w (by decide) Ni
theorem NS (l:Bs) (hl:l.length≤1000000):AC Tryz.prog 87 [.str (toB l),.str ⟨#[32,9,10]⟩] (.str (toB (trw l))):=
 AC.ofB2 (by kernel_rfl) (fun _=>Rel1.str _) fun w=>Any.strings_TrimRight_laid Tryz.lays162 (by kernel_rfl) (toB l) ⟨#[32,9,10]⟩ w (by show l.length≤_;omega) (by decide) Ni
theorem NT (l:Bs) (hl:l.length≤1000000):AC Tryz.prog 108 [.str (toB l),.str ⟨#[32,9,10]⟩] (.str (toB (tmw l))):=
 AC.ofB2 (by kernel_rfl) (fun _=>Rel1.str _) fun w=>Any.strings_Trim_laid Tryz.lays160 (by kernel_rfl) (toB l) ⟨#[32,9,10]⟩ w (by show l.length≤_;omega) (by decide) Ni
def clI:Option Nat→Int
 |none=> -1
 |some e=>e
theorem Kl (s:Bs) (i:Nat) (hl:s.length≤1000000) (hi:i≤s.length):AC Tryz.prog 106 [.str (toB s),.int .i64 i] (.int .i64 (clI (ki s i))):=by
 have U:=fun k=>sB (toB (s.drop k)) (toB [125,125])
 refine kE Tryz.func106 rS rT fun E hE=> ?_
 refine kW ?_;refine aJ (fun k:Nat=>(ar [(0,.str (toB s)),(5,.int .i64 k)],⟨ag [],fun _=>0⟩)) (fun k=>k≤s.length+4∧ ∃n,s.length<n+k∧iu s n k=ki s i) (fun k=>s.length+4-k) i ⟨by omega,s.length+1,by omega,rfl⟩ (wO ⟨kI,kI,trivial⟩ trivial rfl rfl) fun k hk=> ?_
 obtain ⟨hk,n,hn,r⟩:=hk;refine kW ?_;refine kC (fun hb=> ?_) fun hb=> ?_
 ·have hlt:k<s.length:=by simpa [ae] using hb
  obtain ⟨c,hc⟩: ∃c,s[k]? =some c:=⟨_,gA1 hlt⟩
  have hd:=gq hc;have R:(toB s).data.getD (k:Int).toNat 0=c:=eG (by simpa using hc);obtain ⟨n,rfl⟩: ∃n',n=n' +1:=⟨n-1,by omega⟩
  unfold iu at r;rw [hd] at r;dsimp only at r;have U:=U k;rw [kb,hd] at U;clear hb;refine kW ?_;refine kP [.v (.bool (([125,125]:Bs).isPrefixOf (c::s.drop (k+1))))] ?_ ?_
  ·((repeat' apply aI)<;>first|exact kD|(intro p;refine ⟨?_,kG⟩;(repeat' apply aI)<;>first|exact kD|skip)|skip)
   all_goals first|(rw [ae];omega)|(rw [bg];rw [hd];exact U)|skip
  refine kC (fun hb=> ?_) fun hb=> ?_
  ·rw [if_pos hb] at r
   refine kW ?_;refine aR ⟨_,rfl,?_⟩;rw [←r];rfl
  ·rw [if_neg (by rw [hb];simp)] at r
   clear hb;refine kW ?_;refine kP [] ?_ ?_
   ·((repeat' apply aI)<;>first|exact kD|(intro p;refine ⟨?_,kG⟩;(repeat' apply aI)<;>first|exact kD|skip)|skip)
    all_goals first|(rw [ae];omega)|skip
   rw [R,show (34:Int)=((34:Nat):Int) from rfl,eH c 34 (by omega)];refine kC (fun hb=> ?_) fun hb=> ?_
   ·have C:c=34:=by simpa using hb
    rw [if_pos C] at r;clear hb R;have hw1:IntKind.i64.wrap ((k:Int)+1)=((k+1:Nat):Int):=by rw [aD (by omega) (by omega)];omega
    refine kW ?_;rw [hw1];have hQ:=wE s (s.length+1) (k+1);generalize hq:sJ s (s.length+1) (k+1)=Q at*;refine aJ (fun j:Nat=>(ar [(0,.str (toB s)),(5,.int .i64 j)],⟨ag [],fun _=>0⟩)) (fun j=>k+1≤j∧j≤s.length+2∧ ∃m,s.length<m+j∧sJ s m j=Q) (fun j=>s.length+4-j) (k+1) ⟨gA4 _,by omega,s.length+1,by omega,hq⟩ (wO ⟨kI,kI,trivial⟩ trivial rfl rfl) fun j hj=> ?_
    obtain ⟨hj0,hj,m,hm,g⟩:=hj;have hwj:IntKind.i64.wrap ((j:Int)+1)=((j+1:Nat):Int):=by rw [aD (by omega) (by omega)];omega
    refine kW ?_;cases hx:s[j]? with
    |none=>
     have I:=List.getElem?_eq_none_iff.1 hx;have hz:decide ((j:Int)<((toB s).size:Int))=false:=by rw [ae];simpa using I
     have e:Q=j:=by
      rw [←g];cases m with
      |zero=>rfl
      |succ m=>
       unfold sJ;rw [gB6 I]
     refine kP [] ?_ ?_
     ·((repeat' apply aI)<;>first|exact kD|(intro p;refine ⟨?_,kG⟩;(repeat' apply aI)<;>first|exact kD|skip)|skip)
      all_goals (exfalso;rw [hz] at p;simp [gd] at p)
     rw [hz];refine kC (fun hb=> ?_) fun hb=> ?_
     ·cases hb
     ·refine AK.exit rfl ?_
      refine kW ?_;exact AK.lp ⟨j+1,⟨by omega,n,by omega,by rw [←(show Q=j from e)];exact r⟩,wO ⟨kI,kU,trivial⟩ trivial rfl rfl,by omega⟩
    |some d=>
     have T:=(gA0 hx).1;have hz:decide ((j:Int)<((toB s).size:Int))=true:=by rw [ae];simpa using T
     have J:(toB s).data.getD (j:Int).toNat 0=d:=eG (by simpa using hx);have hd2:=gq hx;refine kP [] ?_ ?_
     ·((repeat' apply aI)<;>first|exact kD|(intro p;refine ⟨?_,kG⟩;(repeat' apply aI)<;>first|exact kD|skip)|skip)
      all_goals (rw [ae];omega)
     rw [hz,J,eH d 34 (by omega)];obtain ⟨m,rfl⟩: ∃m',m=m' +1:=⟨m-1,by omega⟩
     unfold sJ at g;rw [hd2] at g;dsimp only at g;refine kC (fun hb=> ?_) fun hb=> ?_
     ·have hne:d≠34:=by simpa using hb
      rw [if_neg hne] at g;clear hb;refine kW ?_;refine kP [] ?_ ?_
      ·((repeat' apply aI)<;>first|exact kD|(intro p;refine ⟨?_,kG⟩;(repeat' apply aI)<;>first|exact kD|skip)|skip)
       all_goals (rw [ae];omega)
      rw [J,show (92:Int)=((92:Nat):Int) from rfl,eH d 92 (by omega)];refine kC (fun hb=> ?_) fun hb=> ?_
      ·have P:d=92:=by simpa using hb
       rw [if_pos P] at g;refine kW ?_;rw [hwj];refine kW ?_;refine AK.lp ⟨j+1+1,⟨by omega,by omega,m,by omega,g⟩,?_,by omega⟩;exact wO ⟨kI,kU,trivial⟩ trivial rfl rfl
      ·have P:d≠92:=by simpa using hb
       rw [if_neg P] at g;refine kW ?_;refine AK.lp ⟨j+1,⟨by omega,by omega,m,by omega,g⟩,?_,by omega⟩;exact wO ⟨kI,kU,trivial⟩ trivial rfl rfl
     ·have C:d=34:=by simpa using hb
      rw [if_pos C] at g;refine AK.exit rfl ?_;refine kW ?_;exact AK.lp ⟨j+1,⟨by omega,n,by omega,by rw [←(show Q=j from g.symm)];exact r⟩,wO ⟨kI,kU,trivial⟩ trivial rfl rfl,by omega⟩
   ·have C:c≠34:=by simpa using hb
    rw [if_neg C] at r;refine kW ?_;refine AK.lp ⟨k+1,⟨by omega,n,by omega,r⟩,?_,by omega⟩;exact wO ⟨kI,kU,trivial⟩ trivial rfl rfl
 ·have I:s.length≤k:=by simpa [ae] using hb
  have e:ki s i=none:=by
   rw [←r];cases n with
   |zero=>rfl
   |succ n=>
    unfold iu;rw [gB6 I]
  rw [e];clear hb;refine AK.exit rfl ?_;refine kW ?_;refine aR ⟨_,rfl,?_⟩;rfl
theorem Do (c:UInt8) (n:Nat) (hn:n<256):decide ((c.toNat:Int)≤(n:Int))=decide (c≤n.toUInt8):=by
 rw [Bool.eq_iff_iff,gB0,gB0,UInt8.le_iff_toNat_le];simp [Nat.mod_eq_of_lt hn]
theorem Dp (c:UInt8) (n:Nat) (hn:n<256):decide ((c.toNat:Int)≥(n:Int))=decide (n.toUInt8≤c):=by
 rw [Bool.eq_iff_iff,gB0,gB0,UInt8.le_iff_toNat_le];simp [Nat.mod_eq_of_lt hn]
theorem jA (c:UInt8):AC Tryz.prog 210 [.int .u8 c.toNat] (.bool (hZ c)):=by
 refine kE Tryz.func210 qb qc fun E g=> ?_
 refine kW ?_;refine kQ [] ?_;refine kW ?_;refine aR ⟨_,rfl,?_⟩;refine congrArg AV.bool ?_;rw [show ((97:Int))=((97:Nat):Int) from rfl,show ((122:Int))=((122:Nat):Int) from rfl,show ((65:Int))=((65:Nat):Int) from rfl,show ((90:Int))=((90:Nat):Int) from rfl,show ((95:Int))=((95:Nat):Int) from rfl,Dp c 97 (by omega),Do c 122 (by omega),Dp c 65 (by omega),Do c 90 (by omega),eH c 95 (by omega)];rfl
theorem Gn (c:UInt8):AC Tryz.prog 209 [.int .u8 c.toNat] (.bool (nf c)):=by
 have h:=jA c;refine kE Tryz.func209 ub uc fun E g=> ?_
 refine kW ?_;refine kQ [.v (.bool (hZ c))] ?_;refine kW ?_;refine aR ⟨_,rfl,?_⟩;refine congrArg AV.bool ?_;rw [show ((48:Int))=((48:Nat):Int) from rfl,show ((57:Int))=((57:Nat):Int) from rfl,Dp c 48 (by omega),Do c 57 (by omega)];rfl
abbrev rdC (r:RD):List AV:= [.str (toB r.s),.int .i64 r.deep,.int .i64 r.bad]
abbrev rdS (r:RD):List (Nat×List AV):= [(2000000,rdC r)]
abbrev exN (x:EX):AV:= .agg (exH x.kind x.v x.name x.steps++ [.lst .nil 10 []])
theorem iz (r:RD) (e:Int):MS Tryz.prog 216 (rdS r) [.np 2000000 0,.int .i64 e] (rdS (r.fail e)) (exN EX.null):=by
 refine MS.enterE Tryz.func216 ku kw (by rfl) (by rfl) fun E j=> ?_
 show AK _ _ _ [.c dN] _ _;rw [dN];refine kW ?_;refine kC (fun hb=> ?_) fun hb=> ?_
 ·have g:r.bad=0:=by simpa using hb
  have i:r.fail e=⟨[],r.deep,e⟩:=by unfold RD.fail;rw [if_pos g]
  rw [i];refine kW ?_;exact aR ⟨⟨_,rfl,rfl⟩,⟨_,rfl,rfl⟩,trivial⟩
 ·have g: ¬r.bad=0:=by simpa using hb
  have i:r.fail e=⟨[],r.deep,r.bad⟩:=by unfold RD.fail;rw [if_neg g]
  rw [i];refine kW ?_;exact aR ⟨⟨_,rfl,rfl⟩,⟨_,rfl,rfl⟩,trivial⟩
theorem mN (r:RD):MS Tryz.prog 213 (rdS r) [.np 2000000 0] (rdS r.skip) (.tup []):=by
 have h:=Dn r.s;refine MS.enter Tryz.func213 kx kz (by rfl) (by rfl) fun E g=> ?_
 show AK _ _ _ [.c dO] _ _;rw [dO];refine kW ?_;refine kQ [.v (.str (toB (tlw r.s)))] ?_;show RQS _ _ _ .normal _ _;exact ⟨⟨_,rfl,rfl⟩,⟨_,rfl,rfl⟩,trivial⟩
theorem A5 {p:UInt8→Bool}: ∀{t:Bs} {k:Nat},k≤(t.takeWhile p).length→(match t[k]? with|none=>false|some c=>p c)=decide (k<(t.takeWhile p).length)
 | [],k,_=>by simp
 |c::t,0,_=>by
  by_cases h:p c=true
  ·simp [List.takeWhile,h]
  ·simp [List.takeWhile,h]
 |c::t,k+1,g=>by
  by_cases h:p c=true
  ·have e:(c::t).takeWhile p=c::t.takeWhile p:=by simp [List.takeWhile,h]
   rw [e,gA3] at g⊢;have:=A5 (p:=p) (t:=t) (k:=k) (by omega);simp only [List.getElem?_cons_succ,this];simp
  ·have e:(c::t).takeWhile p= []:=by simp [List.takeWhile,h]
   rw [e] at g;simp at g
theorem Km {c:UInt8} (h:hZ c=true):nf c=true:=by unfold nf;rw [h];rfl
theorem Gp {s:Bs} {k:Nat} (g:k≤(nmL s).length):(match s[k]? with|none=>false|some c=>nf c&&(decide (0<k)||hZ c))=decide (k<(nmL s).length):=by
 cases s with
 |nil=>simp [nmL]
 |cons c t=>
  by_cases h:hZ c=true
  ·have e:nmL (c::t)=c::t.takeWhile nf:=by unfold nmL;dsimp only;rw [if_pos h]
   rw [e,gA3] at g⊢;cases k with
   |zero=>simp [Km h,h]
   |succ k=>
    have:=A5 (p:=nf) (t:=t) (k:=k) (by omega);simp only [List.getElem?_cons_succ];cases ht:t[k]? with
    |none=>rw [ht] at this;simp at this⊢;omega
    |some d=>rw [ht] at this;simp at this⊢;exact this
  ·have e:nmL (c::t)= []:=by unfold nmL;dsimp only;rw [if_neg h]
   rw [e] at g⊢;have:k=0:=by simpa using g
   subst this;simp [h]
def atP (p:UInt8→Bool) (s:Bs) (k:Nat):Bool:=match s[k]? with
 |none=>false
 |some c=>p c
theorem rU {p:UInt8→Bool} {s:Bs} {k:Nat} {c:UInt8} (h:s[k]? =some c):atP p s k=p c:=by unfold atP;rw [h]
theorem Fh (s:Bs) (k:Nat):decide ((k:Int)<((toB s).size:Int))=s[k]?.isSome:=by
 rw [ae];cases h:s[k]? with
 |none=>
  have:=List.getElem?_eq_none_iff.1 h;simp;omega
 |some c=>
  have:=(gA0 h).1;simp;omega
theorem Kn {s:Bs} {k:Nat} (h:decide ((k:Int)<((toB s).size:Int))=true): ∃c,s[k]? =some c∧(toB s).data.getD (k:Int).toNat 0=c:=by
 rw [Fh] at h;obtain ⟨c,g⟩:=Option.isSome_iff_exists.1 h;exact ⟨c,g,eG (by simpa using g)⟩
theorem LV {s:Bs} {k:Nat} (g:k≤(nmL s).length):(decide ((k:Int)<((toB s).size:Int))&&atP nf s k&&(decide ((k:Int)>0)||atP hZ s k))=decide (k<(nmL s).length):=by
 rw [←Gp g,Fh];unfold atP;cases s[k]? with
 |none=>rfl
 |some c=>
  have:decide ((k:Int)>0)=decide (0<k):=by simp
  rw [this];rfl
theorem Gq (s:Bs):s.take (nmL s).length=nmL s:=by
 cases s with
 |nil=>rfl
 |cons c t=>
  unfold nmL;dsimp only;split
  ·rw [gA3,List.take_succ_cons]
   congr 1;exact (List.prefix_iff_eq_take.1 (List.takeWhile_prefix nf)).symm
  ·rfl
theorem gk (r:RD) (hl:r.s.length≤1000000):MS Tryz.prog 158 (rdS r) [.np 2000000 0] (rdS (r.to (r.s.drop (nmL r.s).length))) (.str (toB (nmL r.s))):=by
 have j:=gj r.s;refine MS.enter Tryz.func158 kF kH (by rfl) (by rfl) fun E R=> ?_
 show AK _ _ _ [.c dP] _ _;rw [dP];refine kW ?_;refine aJ (fun k:Nat=>(ar [(0,.np 2000000 0),(3,.int .i64 k)],⟨ag [(2000000,rdC r,false)],fun _=>0⟩)) (fun k=>k≤(nmL r.s).length) (fun k=>(nmL r.s).length-k) 0 (gB8 _) (wN ⟨kI,kI,trivial⟩ ⟨kJ,trivial⟩ rfl rfl ⟨rfl,trivial⟩) fun k J=> ?_
 have i:=LV J;refine kW ?_;refine kP [.v (.bool (atP nf r.s k)),.v (.bool (atP hZ r.s k))] ?_ ?_
 ·((repeat' apply aI)<;>first|exact kD|(intro g;refine ⟨?_,kG⟩;(repeat' apply aI)<;>first|exact kD|skip)|skip)
  all_goals obtain ⟨c,I,p⟩:=Kn (s:=r.s) (k:=k) (by first|exact g|(simp only [gd,gA9] at g;exact g.1.1))
  all_goals have P:=(gA0 I).1
  all_goals first
   |(rw [ae];omega)
   |(rw [p,rU I];exact Gn c)
   |(rw [p,rU I];exact jA c)
 refine kC (fun hb=> ?_) fun hb=> ?_
 ·have C:k<(nmL r.s).length:=by
   have h:(decide ((k:Int)<((toB r.s).size:Int))&&atP nf r.s k&&(decide ((k:Int)>0)||atP hZ r.s k))=true:=hb;rw [i] at h;simpa using h
  refine kW ?_;exact AK.lp ⟨k+1,by omega,wN ⟨kI,kU,trivial⟩ ⟨kJ,trivial⟩ rfl rfl ⟨rfl,trivial⟩,by omega⟩
 ·have C:k=(nmL r.s).length:=by
   have h:(decide ((k:Int)<((toB r.s).size:Int))&&atP nf r.s k&&(decide ((k:Int)>0)||atP hZ r.s k))=false:=hb;rw [i] at h;have: ¬k<(nmL r.s).length:=by simpa using h
   omega
  have ht:=Gq r.s;rw [←C] at ht j⊢;clear hb i;refine AK.exit rfl ?_;refine kW ?_;refine kP [] ?_ ?_
  ·((repeat' apply aI)<;>first|exact kD|(intro g;refine ⟨?_,kG⟩;(repeat' apply aI)<;>first|exact kD|skip)|skip)
   all_goals first|omega|(rw [ae];omega)
  refine kW ?_;refine kP [] ?_ ?_
  ·((repeat' apply aI)<;>first|exact kD|(intro g;refine ⟨?_,kG⟩;(repeat' apply aI)<;>first|exact kD|skip)|skip)
   all_goals first|omega|(rw [ae];omega)
  refine kW ?_;refine aR ⟨⟨_,rfl,?_⟩,⟨_,rfl,?_⟩,trivial⟩
  ·rw [gh _ _ j,ht]
   rfl
  ·rw [bg]
   rfl
abbrev psJ (r:RD):Nat×List ByteArray×Bs×(Nat→Nat)→Fr×St:=fun x=>(ar [(0,.np 2000000 0),(3,.lst (.own 38 (x.2.2.2 38)) 1 (aRz x.2.1))],⟨ag [(2000000,[.str (toB x.2.2.1),.int .i64 r.deep,.int .i64 r.bad],false)],x.2.2.2⟩)
theorem H8 (l:List ByteArray) (s:ByteArray):aRz (l++ [s])=aRz l++ [[.str s]]:=by simp [aRz]
theorem kK (n:Nat) (d c:UInt8) (t:Bs):bi (n+1) (d::c::t)=if d=46∧hZ c=true then (toB (nmL (c::t))::(bi n ((c::t).drop (nmL (c::t)).length)).1,(bi n ((c::t).drop (nmL (c::t)).length)).2) else ([],d::c::t):=rfl
theorem Dq (r:RD) (hl:r.s.length≤1000000):MS Tryz.prog 290 (rdS r) [.np 2000000 0] (rdS (r.to (bi r.s.length r.s).2)) (.lst .any 1 (aRz (bi r.s.length r.s).1)):=by
 refine MS.enter Tryz.func290 jy jz (by rfl) (by rfl) fun E hE=> ?_
 show AK _ _ _ [.c dt] _ _;rw [dt];refine kW ?_;refine aJ (psJ r) (fun x=>x.2.2.1.length≤x.1∧x.2.2.1.length+x.2.1.length≤r.s.length∧x.2.1++(bi x.1 x.2.2.1).1=(bi r.s.length r.s).1∧(bi x.1 x.2.2.1).2=(bi r.s.length r.s).2) (fun x=>x.2.2.1.length) (r.s.length,[],r.s,fun _=>0) ⟨gA4 _,by simp,by simp,rfl⟩ (wN ⟨kI,⟨_,rfl,.one (.own _ _ _ _)⟩,trivial⟩ ⟨kJ,trivial⟩ rfl rfl ⟨rfl,trivial⟩) fun ⟨n,out,s,w⟩ T=> ?_
 obtain ⟨hn,i,P,R⟩:=T;dsimp only at hn i P R;rw [←P,←R];show AK _ _ _ _ (ar _) _;refine kW ?_;rcases s with _|⟨d,_|⟨c,t⟩⟩
 ·have e:bi n []=([],[]):=by cases n<;>rfl
  rw [e,List.append_nil];refine kP [.v (.bool false)] ?_ ?_
  ·((repeat' apply aI)<;>first|exact kD|(intro g;refine ⟨?_,kG⟩;(repeat' apply aI)<;>first|exact kD|skip)|skip)
   all_goals (exfalso;simp [gd,ae] at g)
  refine kC (fun hb=> ?_) fun hb=> ?_
  ·simp [ae] at hb
  ·refine AK.exit rfl ?_
   refine kW ?_;exact aR ⟨⟨_,rfl,rfl⟩,⟨_,rfl,rfl⟩,trivial⟩
 ·have e:bi n [d]=([],[d]):=by cases n<;>rfl
  rw [e,List.append_nil];refine kP [.v (.bool false)] ?_ ?_
  ·((repeat' apply aI)<;>first|exact kD|(intro g;refine ⟨?_,kG⟩;(repeat' apply aI)<;>first|exact kD|skip)|skip)
   all_goals (exfalso;simp [gd,ae] at g)
  refine kC (fun hb=> ?_) fun hb=> ?_
  ·simp [ae] at hb
  ·refine AK.exit rfl ?_
   refine kW ?_;exact aR ⟨⟨_,rfl,rfl⟩,⟨_,rfl,rfl⟩,trivial⟩
 ·have j:(toB (d::c::t)).data.getD (0:Int).toNat 0=d:=eG (k:=0) rfl
  have p:(toB (d::c::t)).data.getD (1:Int).toNat 0=c:=eG (k:=1) rfl;have U:decide (((toB (d::c::t)).size:Int)>1)=true:=by rw [ae,gA3,gA3,gB0];omega
  have C:=jA c;refine kP [.v (.bool (hZ c))] ?_ ?_
  ·((repeat' apply aI)<;>first|exact kD|(intro g;refine ⟨?_,kG⟩;(repeat' apply aI)<;>first|exact kD|skip)|skip)
   all_goals first|(rw [ae];simp;omega)|(rw [ae,gA3,gA3];omega)|(rw [p];exact C)|skip
  rw [U,j,show (46:Int)=((46:Nat):Int) from rfl,eH d 46 (by omega)];obtain ⟨n,rfl⟩: ∃n',n=n' +1:=⟨n-1,by simp only [gA3] at hn;omega⟩
  simp only [gA3] at hn i;rw [kK];refine kC (fun hb=> ?_) fun hb=> ?_
  ·have I:d=46∧hZ c=true:=by simpa using hb
   rw [if_pos I];have hnm:=gk (r.to (c::t)) (by show (c::t).length≤_;rw [gA3];omega);have hnp:=iy (A4 (t:=t) I.2);have J:=gj (c::t);rw [gA3] at J;clear hb;refine kW ?_;refine kP [] ?_ ?_
   ·((repeat' apply aI)<;>first|exact kD|(intro g;refine ⟨?_,kG⟩;(repeat' apply aI)<;>first|exact kD|skip)|skip)
    all_goals first|omega|(rw [ae,gA3,gA3];omega)
   rw [show ((1:Int)).toNat=((1:Nat):Int).toNat from rfl,bg,show (d::c::t).drop 1=c::t from rfl];refine kW ?_;refine kP [.s [2000000] (rdS (r.to ((c::t).drop (nmL (c::t)).length))) (.str (toB (nmL (c::t))))] ?_ ?_
   ·((repeat' apply aI)<;>first|exact kD|(intro g;refine ⟨?_,kG⟩;(repeat' apply aI)<;>first|exact kD|skip)|skip)
    all_goals simp only [bm,List.length_nil,gA3]
    all_goals omega
   refine kW ?_;refine AK.lp ⟨(n,out++ [toB (nmL (c::t))],(c::t).drop (nmL (c::t)).length,_),⟨?_,?_,?_,?_⟩,wN ⟨kI,⟨_,rfl,.of_eq (congrArg (AV.lst _ 1) (H8 _ _).symm)⟩,trivial⟩ ⟨kJ,trivial⟩ rfl rfl ⟨rfl,trivial⟩,?_⟩
   ·dsimp only;rw [gA6,gA3];omega
   ·dsimp only;rw [gA6,gA3,gA5,List.length_singleton];omega
   ·dsimp only;exact List.append_assoc _ _ _
   ·rfl
   ·simp only [gA6,gA3];omega
  ·have I: ¬(d=46∧hZ c=true):=by simpa using hb
   rw [if_neg I,List.append_nil];clear hb;refine AK.exit rfl ?_;refine kW ?_;exact aR ⟨⟨_,rfl,rfl⟩,⟨_,rfl,rfl⟩,trivial⟩
theorem NU (s:Bs) (k:Nat):(decide ((k:Int)<((toB s).size:Int))&&decide ((((toB s).data.getD (k:Int).toNat 0).toNat:Int)≥48)&&decide ((((toB s).data.getD (k:Int).toNat 0).toNat:Int)≤57))=(decide ((k:Int)<((toB s).size:Int))&&atP (fun c=>decide (48≤c)) s k&&atP (fun c=>decide (c≤57)) s k):=by
 cases h:decide ((k:Int)<((toB s).size:Int)) with
 |false=>rfl
 |true=>
  obtain ⟨c,i,g⟩:=Kn h;rw [g,rU i,rU i,show ((48:Int))=((48:Nat):Int) from rfl,show ((57:Int))=((57:Nat):Int) from rfl,Dp c 48 (by omega),Do c 57 (by omega)];rfl
theorem Dr (c d:Int):AC Tryz.prog 212 [.lst .any 1 [[.int .i64 c],[.int .i64 d]]] (.int .i64 (if c=0 then d else c)):=by
 refine kE Tryz.func212 qd qe fun E r=> ?_
 refine kW ?_;refine aJ (fun k:Nat=>(ar [(3,.int .i64 0),(6,.lst .any 1 [[.int .i64 c],[.int .i64 d]]),(7,.int .i64 2),(8,.int .i64 k)],⟨ag [],fun _=>0⟩)) (fun k=>k≤2∧(0<k→c=0)∧(1<k→d=0)) (fun k=>2-k) 0 ⟨by omega,by omega,by omega⟩ (wO ⟨kI,kI,kI,kI,trivial⟩ trivial rfl rfl) fun k ⟨C,j,p⟩=> ?_
 refine kW ?_;refine kC (fun hb=> ?_) fun hb=> ?_
 ·have g:k<2:=by
   have:(k:Int)<2:=by simpa using hb
   omega
  obtain ⟨n,hn,i⟩: ∃n,[[AV.int IntKind.i64 c],[AV.int IntKind.i64 d]][k]? =some [.int .i64 n]∧(n≠0→(if c=0 then d else c)=n)∧(n=0→(0<k+1→c=0)∧(1<k+1→d=0)):=by
   obtain rfl|rfl:k=0∨k=1:=by omega
   ·exact ⟨c,rfl,fun h=>by rw [if_neg h],fun h=>⟨fun _=>h,fun h=>by omega⟩⟩
   ·have:=j (by omega)
    exact ⟨d,rfl,fun h=>by rw [if_pos this],fun h=>⟨fun _=>this,fun _=>h⟩⟩
  refine kW ?_;refine kQ [.c [.int .i64 n]] ?_;refine kW ?_;refine kC (fun hb=> ?_) fun hb=> ?_
  ·have h:n≠0:=by simpa using hb
   refine kW ?_;refine aR ⟨_,rfl,?_⟩;exact congrArg (AV.int _) (i.1 h).symm
  ·have h:n=0:=by simpa using hb
   refine kW ?_;exact AK.lp ⟨k+1,⟨by omega,(i.2 h).1,(i.2 h).2⟩,wO ⟨kI,kI,kI,kU,trivial⟩ trivial rfl rfl,by omega⟩
 ·have g:k=2:=by
   have:(2:Int)≤k:=by simpa using hb
   omega
  subst g;refine AK.exit rfl ?_;refine kW ?_;refine aR ⟨_,rfl,?_⟩;exact congrArg (AV.int _) (by rw [if_pos (j (by omega)),p (by omega)])
theorem LW {c:UInt8} {t:Bs} {k:Nat} (i:1≤k) (g:k≤ia (c::t)):(decide ((k:Int)<((toB (c::t)).size:Int))&&atP (fun c=>decide (48≤c)) (c::t) k&&atP (fun c=>decide (c≤57)) (c::t) k)=decide (k<ia (c::t)):=by
 rw [Fh];obtain ⟨k,rfl⟩: ∃k',k=k' +1:=⟨k-1,by omega⟩
 have hn:ia (c::t)=1+(t.takeWhile ya).length:=rfl;rw [hn] at g⊢;have h:=A5 (p:=ya) (t:=t) (k:=k) (by omega)
 have e:decide (k+1<1+(t.takeWhile ya).length)=decide (k<(t.takeWhile ya).length):=by
  rw [Bool.eq_iff_iff,gB0,gB0];omega
 rw [e,←h];unfold atP;rw [List.getElem?_cons_succ];cases t[k]? with
 |none=>rfl
 |some d=>rfl
abbrev exZ:List AV:= [.int .i64 0,.int .i64 0,.bool false,.int .i64 0,.str ⟨#[]⟩,.lst .nil 6 [],.lst .nil 7 [],.str ⟨#[]⟩,.lst .nil 1 [],.lst .nil 10 []]
theorem H9 (r:RD) (hl:r.s.length≤1000000) {c:UInt8} {t:Bs} (C:r.s=c::t):MS Tryz.prog 289 (rdS r) [.np 2000000 0] (rdS (rE r).2) (exN (rE r).1):=by
 obtain ⟨s,I,J⟩:=r;have C:s=c::t:=C;subst C;have hl:(c::t).length≤1000000:=hl;have P:=Dk (c::t);have R:=LU (c:=c) (t:=t);have j:=Al (toB ((c::t).take (ia (c::t)))) (by rw [ae,gA7];omega);refine MS.enterE Tryz.func289 iM iN (by rfl) (by rfl) fun E hE=> ?_
 show AK _ _ _ [.c c7] _ _;rw [c7];refine kW ?_;refine aJ (fun k:Nat=>(ar [(0,.np 2000000 0),(2,.ptr 2 0),(3,.int .i64 k)],⟨ag [(2,exZ,false),(2000000,[.str (toB (c::t)),.int .i64 I,.int .i64 J],false)],fun _=>0⟩)) (fun k=>1≤k∧k≤ia (c::t)) (fun k=>ia (c::t)-k) 1 ⟨gA4 _,P⟩ (wN ⟨kI,kI,kI,trivial⟩ ⟨kJ,kJ,trivial⟩ rfl rfl ⟨rfl,trivial⟩) fun k ⟨T,hk⟩=> ?_
 have i:=(NU (c::t) k).trans (LW T hk);refine kW ?_;refine kP [] ?_ ?_
 ·((repeat' apply aI)<;>first|exact kD|(intro g;refine ⟨?_,kG⟩;(repeat' apply aI)<;>first|exact kD|skip)|skip)
  all_goals (obtain ⟨d,hc,hat⟩:=Kn (s:=c::t) (k:=k) (by first|exact g|(simp only [gd,gA9] at g;exact g.1));have hlt:=(gA0 hc).1;first|omega|(rw [ae];omega))
 refine kC (fun hb=> ?_) fun hb=> ?_
 ·have p:k<ia (c::t):=gB3 (i.symm.trans hb)
  clear hb i;refine kW ?_;exact AK.lp ⟨k+1,⟨by omega,by omega⟩,wN ⟨kI,kI,kU,trivial⟩ ⟨kJ,kJ,trivial⟩ rfl rfl ⟨rfl,trivial⟩,by omega⟩
 ·have p:k=ia (c::t):=by
   have: ¬k<ia (c::t):=gB4 (i.symm.trans hb);omega
  subst p;clear hb i;refine AK.exit rfl ?_;refine kW ?_;refine kP [.v (.tup [vA (bw (toB ((c::t).take (ia (c::t))))).1,.int .i64 (bw (toB ((c::t).take (ia (c::t))))).2])] ?_ ?_
  ·((repeat' apply aI)<;>first|exact kD|(intro g;refine ⟨?_,kG⟩;(repeat' apply aI)<;>first|exact kD|skip)|skip)
   all_goals first|omega|(rw [ae];omega)|(rw [gh _ _ R];exact j)
  clear j;unfold rE;dsimp only;generalize bw (toB ((c::t).take (ia (c::t))))=q;obtain ⟨v,e⟩:=q;dsimp only;refine kW ?_;refine kQ [] ?_;refine kC (fun hb=> ?_) fun hb=> ?_
  ·have U:e≠0∨v.kind≠2:=by simpa using hb
   clear hb;rw [if_pos U];have hor:=Dr e 20;have hfl:=iz ⟨c::t,I,J⟩ (if e=0 then 20 else e);refine kW ?_;refine kQ [.v (.int .i64 (if e=0 then 20 else e)),.s [2000000] (rdS ((⟨c::t,I,J⟩:RD).fail (if e=0 then 20 else e))) (exN EX.null)] ?_;refine kW ?_;exact aR ⟨⟨_,rfl,rfl⟩,⟨_,rfl,rfl⟩,trivial⟩
  ·have U: ¬(e≠0∨v.kind≠2):=by simpa using hb
   clear hb;rw [if_neg U];refine kW ?_;refine kP [] ?_ ?_
   ·((repeat' apply aI)<;>first|exact kD|(intro g;refine ⟨?_,kG⟩;(repeat' apply aI)<;>first|exact kD|skip)|skip)
    all_goals first|omega|(rw [ae];omega)
   rw [bg];refine kW ?_;exact aR ⟨⟨_,rfl,rfl⟩,⟨_,rfl,rfl⟩,trivial⟩
end
section
set_option maxRecDepth 100000
set_option maxHeartbeats 20000000
def Gr:List Nat:= [2000216,2000213,2000158,2000290,2000289,2000264,2000245,2000215,2000059,2000112,2000058,2000159,2000110,2000105,5000030]
noncomputable def cA:ACode:=bK Tryz.prog Gr Tryz.f264
noncomputable def jB:AFn:=⟨1,182,cA,[.cell 2 10 true,.tmp 3]⟩
theorem gX:aq Tryz.prog Gr Tryz.f264=some jB:=kk
theorem gY:ab Tryz.prog 264=true:=kk
end
section
open Go.RowKit
abbrev FX:=Option (Bool×Nat×Nat)
abbrev fX (l:List EX) (m:Nat):List AV:=rowB (aO l) m
theorem Ds {c:AV} {x:EX} (h:c∈x.row):c.cln=true∧c.unown=c:=by
 obtain ⟨k,v,n,s,a⟩:=x;simp only [EX.row,exH,List.cons_append,List.nil_append,List.mem_cons,List.not_mem_nil,or_false] at h;rcases h with rfl|rfl|rfl|rfl|rfl|rfl|rfl|rfl|rfl|rfl<;>exact ⟨rfl,rfl⟩
theorem Ko (x:EX):x.row.length=10:=by
 obtain ⟨k,v,n,s,a⟩:=x;rfl
theorem al (l:List EX):Cln (aO l):=fun r hr c g=>by
 rw [gu] at hr;obtain ⟨x,_,rfl⟩:=List.mem_map.1 hr;exact (Ds g).1
theorem ma (l:List EX):RowsOk 10 (aO l):=⟨by omega,fun c g=>by
 rw [gu] at g;obtain ⟨x,_,rfl⟩:=List.mem_map.1 g;exact ⟨Ko x,(List.map_congr_left fun d i=>(Ds i).2).trans (List.map_id _)⟩⟩
def exI (l:List EX) (i:Nat×Nat):Prop:=l.length≤i.1∧(fX l i.2).length=i.1*10
def lv (l:List EX):FX→Prop
 |none=>l= []
 |some (_,i)=>exI l i
def exS (a b:Nat) (l:List EX):FX→List (Nat×List AV)
 |none=> []
 |some (false,i)=> [(a,fX l i.2)]
 |some (true,i)=> [(b,fX l i.2)]
def exA (a b:Nat) (l:List EX):FX→AV
 |none=> .lst .nil 10 []
 |some (false,i)=> .sli a 10 l.length i.1
 |some (true,i)=> .sli b 10 l.length i.1
abbrev exG (a b:Nat) (x:EX) (f:FX):AV:= .agg (exH x.kind x.v x.name x.steps++ [exA a b x.args f])
theorem iO (st:St) (q:Nat) (l:List EX) (cap m:Nat) (hb:st.box q=some (fX l m,true)) (g:cC q=false):AVle1 st (.sli q 10 l.length cap) (.lst .any 10 (aO l)):=by
 rw [←bu l];exact .frz q 10 cap (aO l) (List.replicate m AV.top) hb (ma l) g
def PO (n:Nat):Prop:= ∀(r:RD) (x:EX) (ok:Bool) (r' :RD),r.s.length≤1000000→4*r.s.length+1≤n→exF n .operand r=(x,ok,r')→MSX Tryz.prog 264 (rdS r) [.np 2000000 0] (lv x.args) (fun f=>rdS r' ++exS 1000001 1000002 x.args f) (fun f=> .tup [exG 1000001 1000002 x f,.bool ok])
def PC (n:Nat):Prop:= ∀(r:RD) (x:EX) (ok:Bool) (r' :RD),r.s.length≤1000000→4*r.s.length+2≤n→exF n .command r=(x,ok,r')→MSX Tryz.prog 245 (rdS r) [.np 2000000 0] (lv x.args) (fun f=>rdS r' ++exS 1000001 1000002 x.args f) (fun f=>exG 1000001 1000002 x f)
def PP (n:Nat):Prop:= ∀(r:RD) (x:EX) (ok:Bool) (r' :RD),r.s.length≤1000000→4*r.s.length+3≤n→exF n .pipe r=(x,ok,r')→MSX Tryz.prog 215 (rdS r) [.np 2000000 0] (lv x.args) (fun f=>rdS r' ++exS 1000001 1000002 x.args f) (fun f=>exG 1000001 1000002 x f)
theorem mO (r:RD) (l:List EX) (m:Nat) (q:Nat) (g:q=1000001∨q=1000002∨q=1000003∨q=1000004) (res:AV) (hr:okS [2000000] [(2000000,rdC r),(q,[])] res=true):okS [2000000] [(2000000,rdC r),(q,fX l m)] res=true:=by
 have h:=(al l).inS [2000000,q] m;unfold okS at hr⊢;rw [gA9,gA9] at hr⊢;refine ⟨⟨hr.1.1,?_⟩,hr.2⟩;show (true&&((fX l m).all (AV.inS [2000000,q])&&true))=true;rw [h];rfl
theorem uF (r:RD) (x:EX) (b:Bool) (f:FX) {g:Nat→Option (List AV×Bool)} (i:bf g (au [2000000] (rdS r++exS 1000003 1000004 x.args f))=true):(okS [2000000] (rdS r++exS 1000003 1000004 x.args f) (.tup [exG 1000003 1000004 x f,.bool b])&&bf g (au [2000000] (rdS r++exS 1000003 1000004 x.args f)))=true:=by
 rw [i,Bool.and_true];rcases f with _|⟨_|_,c,m⟩
 ·rfl
 ·exact mO r x.args m 1000003 (by omega) _ rfl
 ·exact mO r x.args m 1000004 (by omega) _ rfl
theorem LX (r:RD) (x:EX) (b:Bool) (f:FX) {g:Nat→Option (List AV×Bool)} (i:bf g (au [2000000] (rdS r++exS 1000001 1000002 x.args f))=true):(okS [2000000] (rdS r++exS 1000001 1000002 x.args f) (.tup [exG 1000001 1000002 x f,.bool b])&&bf g (au [2000000] (rdS r++exS 1000001 1000002 x.args f)))=true:=by
 rw [i,Bool.and_true];rcases f with _|⟨_|_,c,m⟩
 ·rfl
 ·exact mO r x.args m 1000001 (by omega) _ rfl
 ·exact mO r x.args m 1000002 (by omega) _ rfl
theorem A6 (r:RD) (x:EX) (f:FX) {g:Nat→Option (List AV×Bool)} (i:bf g (au [2000000] (rdS r++exS 1000001 1000002 x.args f))=true):(okS [2000000] (rdS r++exS 1000001 1000002 x.args f) (exG 1000001 1000002 x f)&&bf g (au [2000000] (rdS r++exS 1000001 1000002 x.args f)))=true:=by
 rw [i,Bool.and_true];rcases f with _|⟨_|_,c,m⟩
 ·rfl
 ·exact mO r x.args m 1000001 (by omega) _ rfl
 ·exact mO r x.args m 1000002 (by omega) _ rfl
def A7 (i:Nat):Nat:=swY 1000001 1000003 (swY 1000002 1000004 i)
theorem Kp (i j:Nat) (h:A7 i=A7 j):i=j:=bA _ _ (bA _ _ h)
theorem LY (i:Nat):kd (A7 i)=kd i:=by unfold A7;rw [bY (by rfl),bY (by rfl)]
theorem Mj (q:Nat) (l:List EX) (m:Nat):qH A7 [(q,fX l m)]= [(A7 q,fX l m)]:=by
 show [(A7 q,(fX l m).map (AV.ren A7))]=_;rw [(al l).ren]
theorem PO.ren {n:Nat} (h:PO n) (r:RD) (x:EX) (ok:Bool) (r' :RD) (g:r.s.length≤1000000) (i:4*r.s.length+1≤n) (j:exF n .operand r=(x,ok,r')):MSX Tryz.prog 264 (rdS r) [.np 2000000 0] (lv x.args) (fun f=>rdS r' ++exS 1000003 1000004 x.args f) (fun f=> .tup [exG 1000003 1000004 x f,.bool ok]):=
 ((h r x ok r' g i j).ren A7 Kp LY).impY (fun f=>f) (fun _ h=>h) (fun f=>by
  rcases f with _|⟨_|_,c,m⟩
  ·rfl
  ·exact congrArg (List.cons _) (Mj 1000001 x.args m).symm
  ·exact congrArg (List.cons _) (Mj 1000002 x.args m).symm) fun f=>by
  rcases f with _|⟨_|_,c,m⟩<;>rfl
theorem Kq (c:UInt8) (t:Bs):(toB (c::t)).data.getD (0:Int).toNat 0=c:=eG (k:=0) rfl
theorem LZ {c:UInt8} (n:Nat) (hn:n<256) (h:decide ((c.toNat:Int)=(n:Int))=true):c=n.toUInt8:=by
 rw [eH c n hn] at h;simpa using h
theorem L0 {c:UInt8} (n:Nat) (hn:n<256) (h:decide ((c.toNat:Int)=(n:Int))=false): ¬c=n.toUInt8:=by
 rw [eH c n hn] at h;simpa using h
theorem Of (c:UInt8):(decide ((c.toNat:Int)=45)||decide ((c.toNat:Int)≥48)&&decide ((c.toNat:Int)≤57))=(c==45||ya c):=by
 rw [show ((45:Int))=((45:Nat):Int) from rfl,show ((48:Int))=((48:Nat):Int) from rfl,show ((57:Int))=((57:Nat):Int) from rfl,eH c 45 (by omega),Dp c 48 (by omega),Do c 57 (by omega)];rfl
theorem Fi: ∀{n:Nat} {s:Bs},(bi n s).1= []→(bi n s).2=s
 |0,s,_=>rfl
 |n+1,[],_=>rfl
 |n+1,[d],_=>rfl
 |n+1,d::c::t,h=>by
  rw [kK] at h⊢;split at h
  ·cases h
  ·rename_i g
   rw [if_neg g]
theorem sR: ∀{n m:Nat} {s:Bs},s.length≤n→s.length≤m→bi n s=bi m s
 |0,m,[],_,_=>by cases m<;>rfl
 |n+1,m,[],_,_=>by cases m<;>rfl
 |n+1,m,[d],_,_=>by cases m<;>rfl
 |n+1,0,d::c::t,_,h=>by simp at h
 |n+1,m+1,d::c::t,g,i=>by
  rw [kK,kK];have hl:((c::t).drop (nmL (c::t)).length).length≤t.length+1:=by rw [gA6,gA3];omega
  simp only [gA3] at g i;rw [sR (n:=n) (m:=m) (by omega) (by omega)]
end
end Go.Proofs.YtbgflifmanjpjaaGreatDoor
