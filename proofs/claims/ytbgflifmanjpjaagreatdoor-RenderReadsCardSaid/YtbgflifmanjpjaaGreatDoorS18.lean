/- Part 18. -/
import Derived.Test.YtbgflifmanjpjaaGreatDoorS17
set_option linter.unusedSimpArgs false
set_option linter.unusedVariables false
namespace Go.Proofs.YtbgflifmanjpjaaGreatDoor
section
open Go.RowKit
theorem uB (s:ByteArray):toB s.data.toList=s:=rfl
theorem jj (l:Bs):(toB l).data.toList=l:=rfl
theorem ae (l:Bs):(toB l).size=l.length:=rfl
theorem eG {l:Bs} {k:Nat} {c:UInt8} (h:l[k]? =some c):(toB l).data.getD k 0=c:=by
 have:=(gA0 h)
 obtain ⟨g,i⟩:=this;rw [Array.getD,dif_pos (show k<(toB l).data.size from g)];exact i
theorem Ay (l:Bs) (a b:Nat) (h:b≤l.length):(toB l).extract a b=toB ((l.take b).drop a):=by
 apply ByteArray.ext;apply Array.toList_inj.1;rw [ByteArray.data_extract];simp [toB,List.extract_eq_take_drop];rw [List.drop_take]
theorem wm (l:Bs) (b:Nat) (h:b≤l.length):(toB l).extract 0 b=toB (l.take b):=by rw [Ay l 0 b h];rfl
theorem fE (l:Bs) (a:Nat):(toB l).extract a (toB l).size=toB (l.drop a):=by
 rw [ae,Ay l a _ (gA4 _),List.take_length]
theorem cK {a b:Bs}:toB a=toB b↔a=b:=⟨fun h=>by have:=congrArg (fun x=>x.data.toList) h;exact this,fun h=>by rw [h]⟩
theorem AC.of2 {f:FuncId} {x y:ByteArray} {v:Value} {r:AV} (g:ab Tryz.prog f=true) (hr: ∀σ,RelR σ v r) (h: ∀w,GW w→Calls Tryz.prog f #[.string x,.string y] w fun e w' =>e= .returned v∧w' =w):AC Tryz.prog f [.str x,.str y] r:=by
 refine ⟨g,fun σ w vs C i hg=> ?_⟩;obtain ⟨v1,v2,rfl,j,p⟩:=pM i;have j:Rel1 σ v1 (.str x):=j;have p:Rel1 σ v2 (.str y):=p;cases j;cases p;refine (h w hg).mono ?_;rintro e w' ⟨rfl,rfl⟩;exact ⟨σ,_,rfl,Ext.refl _ _,C,Below.refl _ _,hr σ⟩
theorem m7 (l:Bs):AC Tryz.prog 89 [.str (toB l),.str ⟨#[32]⟩] (.str (toB (tl l))):=AC.of2 (by kernel_rfl) (fun _=>Rel1.str _) fun w _=>Tryz.strings_TrimLeft_one (toB l) 32 (by decide) w
theorem Cr (l:Bs) (hl:l.length≤1000000):AC Tryz.prog 87 [.str (toB l),.str ⟨#[32]⟩] (.str (toB (tr l))):=AC.of2 (by kernel_rfl) (fun _=>Rel1.str _) fun w _=>Tryz.strings_TrimRight_one (toB l) 32 (by decide) w (by show l.length≤_;omega)
theorem rd (l p:Bs) (hl:l.length≤1000000):AC Tryz.prog 107 [.str (toB l),.str (toB p)] (.bool (Lib.hasSuffix l p)):=AC.of2 (by kernel_rfl) (fun _=>Rel1.bool _) fun w _=>Tryz.strings_HasSuffix (toB l) (toB p) w (by show l.length≤_;omega)
theorem F8 (l p:Bs) (hl:l.length≤1000000):AC Tryz.prog 104 [.str (toB l),.str (toB p)] (.int .i64 (Lib.index l p)):=AC.of2 (by kernel_rfl) (fun _=>Rel1.int _ _) fun w hg=>by
 obtain ⟨m,g⟩:=hg.num 0 (by simp [Bk]);exact Tryz.strings_Index (toB l) (toB p) m w (by show l.length<_;omega) g
theorem oF (l p:Bs) (hl:l.length≤1000000):AC Tryz.prog 175 [.str (toB l),.str (toB p)] (.bool (Lib.contains l p)):=AC.of2 (by kernel_rfl) (fun _=>Rel1.bool _) fun w hg=>by
 obtain ⟨m,g⟩:=hg.num 0 (by simp [Bk]);exact Tryz.strings_Contains (toB l) (toB p) m w (by show l.length<_;omega) g
theorem Cs (l:Bs) (c:UInt8):AC Tryz.prog 101 [.str (toB l),.int .u8 c.toNat] (.int .i64 (Lib.indexByte l c)):=by
 have h:=sw (toB l) c.toNat;rw [show ((c.toNat:Int).toNat).toUInt8=c by simp] at h;exact h
theorem Az (l:Bs) (c:UInt8):decide (0≤Lib.indexByte l c)=l.contains c:=by
 rw [Bool.eq_iff_iff,gB0,List.contains_iff_mem];rcases mG l c with ⟨g,j⟩|⟨i,g,j,p,r⟩
 ·rw [g];exact ⟨fun h=>absurd h (by omega),fun h=>absurd h j⟩
 ·rw [g];exact ⟨fun _=>gA2 p,fun _=>by omega⟩
theorem kb (l p:Bs):gc (toB l) (toB p)=p.isPrefixOf l:=by
 rw [Bool.eq_iff_iff,gc,gA9,gB0,gB0,List.isPrefixOf_iff_prefix,ae,ae];constructor
 ·rintro ⟨i,g⟩
  rw [wm l _ i,cK] at g;rw [←g];exact List.take_prefix _ _
 ·intro h
  refine ⟨h.length_le,?_⟩;rw [wm l _ h.length_le,cK];exact (List.prefix_iff_eq_take.1 h).symm
theorem jk (l:Bs) (c:UInt8):gc (toB l) ⟨#[c]⟩=(match l with| []=>false|d::_=>d==c):=by
 rw [show (⟨#[c]⟩:ByteArray)=toB [c] from rfl,kb];cases l with
 |nil=>rfl
 |cons d l=>simp [List.isPrefixOf,eq_comm (a:=c),BEq.comm (a:=c)]
theorem EA (l:Bs):AC Tryz.prog 91 [.str (toB l)] (.bool (dH l)):=by
 have h:=sB (toB l) (toB [45,32]);rw [kb] at h
 have e:decide (toB l=⟨#[45]⟩)=(l== [45]):=by
  rw [show (⟨#[45]⟩:ByteArray)=toB [45] from rfl,Bool.eq_iff_iff,gB0,cK,beq_iff_eq]
 refine kE Tryz.func91 wg wh fun E g=> ?_
 refine kW ?_;refine kQ [.v (.bool ([45,32].isPrefixOf l))] ?_;refine kW ?_;refine aR ⟨_,rfl,?_⟩;rw [e];rfl
theorem yR (l:Bs):AC Tryz.prog 146 [.str (toB l)] (.bool (tG l)):=by
 cases l with
 |nil=>
  have h:=Cs ([91,93,123,125,44,38,42,33,124,62,37,64,35,63,58,34,39,96]:Bs) 0;refine kE Tryz.func146 nV nW fun E i=> ?_
  refine kW ?_;refine kQ [.v (.int .i64 0)] ?_;refine kW ?_;refine aR ⟨_,rfl,?_⟩;rfl
 |cons c l=>
  have h:=Cs ([91,93,123,125,44,38,42,33,124,62,37,64,35,63,58,34,39,96]:Bs) c;have j:=Az ([91,93,123,125,44,38,42,33,124,62,37,64,35,63,58,34,39,96]:Bs) c
  have g:decide (toB (c::l)=⟨#[]⟩)=false:=by
   rw [show (⟨#[]⟩:ByteArray)=toB [] from rfl,decide_eq_false_iff_not,cK];simp
  have p:(toB (c::l)).data.getD (0:Int).toNat 0=c:=eG (k:=0) rfl;have hsz:(0:Int)<(toB (c::l)).size:=by rw [ae,gA3];omega
  refine kE Tryz.func146 nV nW fun E i=> ?_
  refine kW ?_;refine kQ [.v (.int .i64 (Lib.indexByte ([91,93,123,125,44,38,42,33,124,62,37,64,35,63,58,34,39,96]:Bs) c))] ?_;refine kW ?_;refine aR ⟨_,rfl,?_⟩;rw [g];exact congrArg AV.bool j
theorem Jy (c:UInt8):(decide ((c.toNat:Int)=34)||decide ((c.toNat:Int)=39))=isQ c:=by
 have e: ∀n:Nat,n<256→(decide ((c.toNat:Int)=n))=(c==n.toUInt8):=fun n hn=>by
  rw [Bool.eq_iff_iff,gB0,beq_iff_eq,←UInt8.toNat_inj];simp [Nat.mod_eq_of_lt hn];omega
 rw [show ((34:Int))=((34:Nat):Int) from rfl,show ((39:Int))=((39:Nat):Int) from rfl,e 34 (by omega),e 39 (by omega)];rfl
theorem eH (c:UInt8) (n:Nat) (hn:n<256):decide ((c.toNat:Int)=(n:Int))=(c==n.toUInt8):=by
 rw [Bool.eq_iff_iff,gB0,beq_iff_eq,←UInt8.toNat_inj];simp [Nat.mod_eq_of_lt hn];omega
theorem Lh (l:Bs) (i:Nat) (c:UInt8) (hi:l[i]? =some c) (hl:l.length≤1000000):AC Tryz.prog 142 [.str (toB l),.int .i64 i] (.bool (isQ c&&F7 (pU l i))):=by
 have J:=(gA0 hi).1;have g:(toB l).data.getD (i:Int).toNat 0=c:=eG (by simpa using hi);have hsz:(i:Int)<(toB l).size:=by rw [ae];omega
 have r:=Jy c;rcases i with _|i
 ·have h:=Cs ([32,91,123,44]:Bs) c
  refine kE Tryz.func142 k7 lc fun E P=> ?_
  refine kW ?_;refine kP [.v (.int .i64 0)] ?_ ?_
  ·((repeat' apply aI)<;>first|exact kD|(intro j;refine ⟨?_,kG⟩;(repeat' apply aI)<;>first|exact kD|skip)|skip)
   all_goals (exfalso;simp [gd] at j)
  refine kW ?_;refine aR ⟨_,rfl,?_⟩;refine congrArg AV.bool ?_;rw [g];rw [r];rfl
 ·obtain ⟨d,C⟩: ∃d,l[i]? =some d:=⟨_,gA1 (by omega)⟩
  have h:=Cs ([32,91,123,44]:Bs) d;have R:=Az ([32,91,123,44]:Bs) d;have I:IntKind.i64.wrap (((i+1:Nat):Int)-1)=(i:Int):=by rw [aD (by omega) (by omega)];omega
  have p:(toB l).data.getD (IntKind.i64.wrap (((i+1:Nat):Int)-1)).toNat 0=d:=by rw [I];exact eG (by simpa using C)
  refine kE Tryz.func142 k7 lc fun E P=> ?_
  refine kW ?_;refine kP [.v (.int .i64 (Lib.indexByte ([32,91,123,44]:Bs) d))] ?_ ?_
  ·((repeat' apply aI)<;>first|exact kD|(intro j;refine ⟨?_,kG⟩;(repeat' apply aI)<;>first|exact kD|skip)|skip)
   all_goals first|(rw [I];omega)|(rw [p];exact h)|skip
  refine kW ?_;refine aR ⟨_,rfl,?_⟩;refine congrArg AV.bool ?_;rw [g,r];have T:decide (((i+1:Nat):Int)=0)=false:=by rw [decide_eq_false_iff_not];omega
  rw [T];have U:pU l (i+1)=some d:=by rw [pU,if_neg (by omega)];exact C
  rw [U];simp only [Bool.false_or];congr 1;show decide (0≤_)=_;rw [R];simp only [F7,List.contains,List.elem];cases d==32<;>cases d==91<;>cases d==123<;>cases d==44<;>rfl
end
section
open Go.RowKit
theorem bH (l:Bs):decide (toB l=⟨#[]⟩)=l.isEmpty:=by
 rw [show (⟨#[]⟩:ByteArray)=toB [] from rfl,Bool.eq_iff_iff,gB0,cK,List.isEmpty_iff]
theorem bg (l:Bs) (i:Nat):(toB l).extract (i:Int).toNat ((toB l).size:Int).toNat=toB (l.drop i):=fE l i
theorem gh (l:Bs) (i:Nat) (h:i≤l.length):(toB l).extract (0:Int).toNat (i:Int).toNat=toB (l.take i):=wm l i h
theorem gq {l:Bs} {i:Nat} {c:UInt8} (h:l[i]? =some c):l.drop i=c::l.drop (i+1):=by
 rw [List.drop_eq_getElem_cons (gA0 h).1,(gA0 h).2]
theorem M0 (l:Bs) (i:Nat) (c:UInt8) (hi:l[i]? =some c) (hl:l.length≤1000000):
  (decide ((((toB l).data.getD (i:Int).toNat 0).toNat:Int)=35)&&(decide ((i:Int)=0)||decide ((((toB l).data.getD (IntKind.i64.wrap ((i:Int)-1)).toNat 0).toNat:Int)=32)))=(c==35&&Jw (pU l i)):=by
 have r:=(gA0 hi).1;have j:(toB l).data.getD (i:Int).toNat 0=c:=eG (by simpa using hi);rw [j,show (35:Int)=((35:Nat):Int) from rfl,eH c 35 (by omega)];congr 1;rcases i with _|i
 ·rfl
 ·obtain ⟨d,p⟩: ∃d,l[i]? =some d:=⟨_,gA1 (by omega)⟩
  have C:IntKind.i64.wrap (((i+1:Nat):Int)-1)=(i:Int):=by rw [aD (by omega) (by omega)];omega
  have g:(toB l).data.getD (IntKind.i64.wrap (((i+1:Nat):Int)-1)).toNat 0=d:=by rw [C];exact eG (by simpa using p)
  have I:decide (((i+1:Nat):Int)=0)=false:=by rw [decide_eq_false_iff_not];omega
  have J:pU l (i+1)=some d:=by rw [pU,if_neg (by omega)];exact p
  rw [I,g,J,show (32:Int)=((32:Nat):Int) from rfl,eH d 32 (by omega)];rfl
theorem Li (l:Bs) (hl:l.length≤1000000):AC Tryz.prog 88 [.str (toB l)] (.str (toB (cP l))):=by
 have T:=fun k=>jf (toB (l.drop k)) (by rw [ae,gA6];omega)
 refine kE Tryz.func88 we wf fun E g=> ?_
 refine kW ?_;refine aJ (fun i:Nat=>(ar [(0,.str (toB l)),(3,.int .i64 i)],⟨ag [],fun _=>0⟩)) (fun i=>i≤l.length∧ ∃n,l.length<n+i∧sC l n i=sC l (l.length+1) 0) (fun i=>l.length-i) 0 ⟨by omega,l.length+1,by omega,rfl⟩ (wO ⟨kI,kI,trivial⟩ trivial rfl rfl) fun i ⟨hi,n,hn,g⟩=> ?_
 refine kW ?_;refine kC (fun hb=> ?_) fun hb=> ?_
 ·have C:i<l.length:=by simpa [ae] using hb
  obtain ⟨c,I⟩: ∃c,l[i]? =some c:=⟨_,gA1 C⟩
  have P:=M0 l i c I hl;have U:=Lh l i c I hl;obtain ⟨n,rfl⟩: ∃m,n=m+1:=⟨n-1,by omega⟩
  rw [sC,gq I] at g;simp only at g;have hsz:(i:Int)<(toB l).size:=by rw [ae];omega
  refine kW ?_;refine kP [] ?_ ?_
  ·((repeat' apply aI)<;>first|exact kD|(intro r;refine ⟨?_,kG⟩;(repeat' apply aI)<;>first|exact kD|skip)|skip)
   all_goals first
    |(rw [ae];omega)
    |(have R: ¬(i:Int)=0:=by
         intro R;simp [gd,R] at r
      rw [aD (by omega) (by omega)]
      first|omega|(rw [ae];omega))
  refine kC (fun hb=> ?_) fun hb=> ?_
  ·rw [P] at hb
   rw [if_pos hb] at g;refine kW ?_;refine kP [] ?_ ?_
   ·((repeat' apply aI)<;>first|exact kD|(intro r;refine ⟨?_,kG⟩;(repeat' apply aI)<;>first|exact kD|skip)|skip)
    all_goals (rw [ae];omega)
   refine kW ?_;refine aR ⟨_,rfl,?_⟩
   have e:(toB l).extract (0:Int).toNat (i:Int).toNat=toB (cP l):=by
    rw [cP,←g];exact wm l i hi
   rw [e];rfl
  ·rw [P] at hb
   rw [if_neg (by rw [hb];simp)] at g;refine kW ?_;refine kQ [.v (.bool (isQ c&&F7 (pU l i)))] ?_;refine kC (fun hb=> ?_) fun hb=> ?_
   ·rw [if_pos hb] at g
    have j:=T i;rw [Ao,jj,gq I] at j;cases J:lU (c::l.drop (i+1)) with
    |none=>
     rw [J] at g j;simp only [qA] at g j;refine kW ?_;refine kP [.v (.tup [.str ⟨#[]⟩,.str ⟨#[]⟩,.int .i64 11])] ?_ ?_
     ·((repeat' apply aI)<;>first|exact kD|(intro r;refine ⟨?_,kG⟩;(repeat' apply aI)<;>first|exact kD|skip)|skip)
      all_goals first|(rw [ae];omega)|skip
      rw [bg,gq I];exact j
     refine kW ?_;refine kC (fun hb=> ?_) fun hb=> ?_
     ·refine kW ?_
      refine aR ⟨_,rfl,?_⟩;rw [cP,←g,List.take_length];rfl
     ·simp at hb
    |some p=>
     obtain ⟨x,rest⟩:=p;rw [J] at g j;simp only [qA] at g j;have hz:=ir J;simp only [gA3,gA6] at hz;refine kW ?_;refine kP [.v (.tup [.str ⟨x.toArray⟩,.str ⟨rest.toArray⟩,.int .i64 0])] ?_ ?_
     ·((repeat' apply aI)<;>first|exact kD|(intro r;refine ⟨?_,kG⟩;(repeat' apply aI)<;>first|exact kD|skip)|skip)
      all_goals first|(rw [ae];omega)|skip
      rw [bg,gq I];exact j
     refine kW ?_;refine kC (fun hb=> ?_) fun hb=> ?_
     ·simp at hb
     ·refine kW ?_
      refine AK.lp ⟨l.length-rest.length,⟨by omega,n,by omega,g⟩,(wO ⟨kI,⟨_,rfl,.of_eq (congrArg _ ?_)⟩,trivial⟩ trivial rfl rfl),by omega⟩;rw [ae,show (ByteArray.mk rest.toArray).size=rest.length from rfl];have w1:IntKind.i64.wrap ((l.length:Int)-(rest.length:Int))=(l.length:Int)-(rest.length:Int):=aD (by omega) (by omega);have w2:IntKind.i64.wrap ((l.length:Int)-(rest.length:Int)-1)=(l.length:Int)-(rest.length:Int)-1:=aD (by omega) (by omega);rw [w1,w2,aD (by omega) (by omega)];omega
   ·rw [if_neg (by rw [hb];simp)] at g
    refine kW ?_;exact AK.lp ⟨i+1,⟨by omega,n,by omega,g⟩,wO ⟨kI,kU,trivial⟩ trivial rfl rfl,by omega⟩
 ·have C:i=l.length:=by have:l.length≤i:=by simpa [ae] using hb
                        omega
  subst C;refine AK.exit rfl ?_;refine kW ?_;refine aR ⟨_,rfl,?_⟩
  have e:cP l=l:=by
   rw [cP,←g];cases n with
   |zero=>rw [sC,List.take_length]
   |succ n=>rw [sC,List.drop_length];exact List.take_length
  rw [e];rfl
def AA:Option (Bs×Bs)→AV
 |none=> .tup [.str ⟨#[]⟩,.str ⟨#[]⟩,.bool false]
 |some (k,r)=> .tup [.str (toB k),.str (toB r),.bool true]
theorem wn (l:Bs):((!decide (toB l=⟨#[]⟩))&&(decide ((((toB l).data.getD (0:Int).toNat 0).toNat:Int)=34)||decide ((((toB l).data.getD (0:Int).toNat 0).toNat:Int)=39)))=Ap l:=by
 rw [bH];cases l with
 |nil=>rfl
 |cons c l=>
  rw [show (toB (c::l)).data.getD (0:Int).toNat 0=c from eG (k:=0) rfl,Jy];rfl
theorem F9 (l:Bs) (hl:l.length≤1000000):AC Tryz.prog 90 [.str (toB l)] (AA (dj l)):=by
 have I:=jf (toB l) (by rw [ae];omega);rw [Ao,jj] at I;have hq:=wn l;unfold dj;refine kE Tryz.func90 tH tI fun E hE=> ?_
 refine kW ?_;refine kP [] ?_ ?_
 ·((repeat' apply aI)<;>first|exact kD|(intro g;refine ⟨?_,kG⟩;(repeat' apply aI)<;>first|exact kD|skip)|skip)
  all_goals
   cases l with
   |nil=>simp [gd,bH] at g
   |cons c l=>rw [ae,gA3];omega
 refine kC (fun hb=> ?_) fun hb=> ?_
 ·rw [hq] at hb
  rw [if_pos hb];refine kW ?_;cases U:lU l with
  |none=>
   rw [U] at I;simp only [qA] at I;refine kQ [.v (.tup [.str ⟨#[]⟩,.str ⟨#[]⟩,.int .i64 11])] ?_;refine kW ?_;refine kP [.v (.bool false)] ?_ ?_
   ·((repeat' apply aI)<;>first|exact kD|(intro g;refine ⟨?_,kG⟩;(repeat' apply aI)<;>first|exact kD|skip)|skip)
    all_goals (exfalso;simp [gd] at g)
   refine kC (fun hb=> ?_) fun hb=> ?_
   ·refine kW ?_
    refine aR ⟨_,rfl,?_⟩;rfl
   ·simp at hb
  |some p=>
   obtain ⟨key,rest⟩:=p;rw [U] at I;simp only [qA] at I;have hz:=ir U;have R:=sB (toB rest) ⟨#[58]⟩;rw [jk] at R;refine kQ [.v (.tup [.str ⟨key.toArray⟩,.str ⟨rest.toArray⟩,.int .i64 0])] ?_;refine kW ?_;cases rest with
   |nil=>
    refine kP [.v (.bool false)] ?_ ?_
    ·((repeat' apply aI)<;>first|exact kD|(intro g;refine ⟨?_,kG⟩;(repeat' apply aI)<;>first|exact kD|skip)|skip)
     all_goals first|exact R|(exfalso;simp [gd] at g;done)|skip
    refine kC (fun hb=> ?_) fun hb=> ?_
    ·refine kW ?_
     refine aR ⟨_,rfl,?_⟩;rfl
    ·simp at hb
   |cons c r=>
    have hsz:(ByteArray.mk (c::r).toArray).size=r.length+1:=rfl;simp only at R;refine kP [.v (.bool (c==58))] ?_ ?_
    ·((repeat' apply aI)<;>first|exact kD|(intro g;refine ⟨?_,kG⟩;(repeat' apply aI)<;>first|exact kD|skip)|skip)
     all_goals first
      |exact R
      |(rw [hsz]
        have T:(1:Int)<((r.length+1:Nat):Int):=by
         rw [hsz] at g;simp [gd] at g;omega
        omega)
    by_cases C:c=58
    ·subst C
     have J:(ByteArray.mk ((58:UInt8)::r).toArray).extract (1:Int).toNat ((ByteArray.mk ((58:UInt8)::r).toArray).size:Int).toNat=toB r:=fE (58::r) 1;have ht:=m7 r;cases r with
     |nil=>
      refine kC (fun hb=> ?_) fun hb=> ?_
      ·simp [hsz] at hb
      ·refine kW ?_
       refine kP [.v (.str (toB (tl [])))] ?_ ?_
       ·((repeat' apply aI)<;>first|exact kD|(intro g;refine ⟨?_,kG⟩;(repeat' apply aI)<;>first|exact kD|skip)|skip)
        all_goals first|(rw [hsz];simp;done)|(rw [J];exact ht)|skip
       refine kW ?_;refine aR ⟨_,rfl,?_⟩;rfl
     |cons d r=>
      have hat:(ByteArray.mk ((58:UInt8)::d::r).toArray).data.getD (1:Int).toNat 0=d:=rfl;rw [hat,show (32:Int)=((32:Nat):Int) from rfl,eH d 32 (by omega),hsz];by_cases P:d=32
      ·subst P
       refine kC (fun hb=> ?_) fun hb=> ?_
       ·simp at hb
       ·refine kW ?_
        refine kP [.v (.str (toB (tl (32::r))))] ?_ ?_
        ·((repeat' apply aI)<;>first|exact kD|(intro g;refine ⟨?_,kG⟩;(repeat' apply aI)<;>first|exact kD|skip)|skip)
         all_goals first|(rw [hsz];simp;omega)|(rw [J];exact ht)|skip
        refine kW ?_;refine aR ⟨_,rfl,?_⟩;rfl
      ·refine kC (fun hb=> ?_) fun hb=> ?_
       ·refine kW ?_
        refine aR ⟨_,rfl,?_⟩;simp [P,AA];rfl
       ·exfalso
        simp [P] at hb;omega
    ·refine kC (fun hb=> ?_) fun hb=> ?_
     ·refine kW ?_
      refine aR ⟨_,rfl,?_⟩;simp [C,AA];rfl
     ·exfalso
      simp [C] at hb
 ·rw [hq] at hb
  rw [if_neg (by rw [hb];simp)];have hi:=F8 l [58,32] hl;have hsf:=rd l [58] hl;refine kW ?_;rcases Lib.index_spec l [58,32] with ⟨T,_⟩|⟨i,T,_⟩
  ·rw [T] at hi⊢
   rw [if_pos (by omega)];refine kQ [.v (.int .i64 (-1))] ?_;refine kW ?_;refine kC (fun hb=> ?_) fun hb=> ?_
   ·refine kW ?_
    refine kQ [.v (.bool (Lib.hasSuffix l [58]))] ?_;refine kC (fun hb=> ?_) fun hb=> ?_
    ·rw [if_neg (by simpa using hb)]
     refine kW ?_;refine aR ⟨_,rfl,?_⟩;rfl
    ·have hs:Lib.hasSuffix l [58]=true:=by simpa using hb
     rw [if_pos hs]
     have hne:1≤l.length:=by
      cases l with
      |nil=>simp [Lib.hasSuffix] at hs
      |cons c l=>simp
     have hw:IntKind.i64.wrap (((toB l).size:Int)-1)=((l.length-1:Nat):Int):=by rw [ae,aD (by omega) (by omega)];omega
     have P:l.drop (l.length-1+1)= []:=by rw [show l.length-1+1=l.length by omega];exact List.drop_length
     refine kW ?_;rw [hw];have hk:=Cr (l.take (l.length-1)) (by rw [gA7];omega);have ho:=yR (tr (l.take (l.length-1)));have hr:=m7 (l.drop ((l.length-1)+1));refine kP [.v (.str (toB (tr (l.take (l.length-1)))))] ?_ ?_
     ·((repeat' apply aI)<;>first|exact kD|(intro g;refine ⟨?_,kG⟩;(repeat' apply aI)<;>first|exact kD|skip)|skip)
      all_goals first|(rw [ae];omega)|(rw [gh _ _ (by omega)];exact hk)|skip
     refine kW ?_;refine kQ [.v (.bool (tG (tr (l.take (l.length-1)))))] ?_;refine kC (fun hb=> ?_) fun hb=> ?_
     ·rw [if_pos (by rw [bH] at hb;simpa [List.isEmpty_iff] using hb)]
      refine kW ?_;refine aR ⟨_,rfl,?_⟩;rfl
     ·rw [if_neg (by rw [bH] at hb;simpa [List.isEmpty_iff] using hb)]
      have j:IntKind.i64.wrap (((l.length-1):Nat)+1:Int)=(((l.length-1)+1:Nat):Int):=by rw [aD (by omega) (by omega)];omega
      refine kW ?_;refine kP [.v (.str (toB (tl (l.drop ((l.length-1)+1)))))] ?_ ?_
      ·((repeat' apply aI)<;>first|exact kD|(intro g;refine ⟨?_,kG⟩;(repeat' apply aI)<;>first|exact kD|skip)|skip)
       all_goals first|(rw [j,ae];omega)|(rw [j];omega)|(rw [j,bg];exact hr)|skip
      refine kW ?_;refine aR ⟨_,rfl,?_⟩
      (rw [P];rfl)
   ·simp at hb
  ·have h2:=Lib.index_room l [58,32] (by omega)
   rw [T] at hi h2⊢;rw [if_neg (by omega)];simp only [gA3,List.length_nil] at h2;refine kQ [.v (.int .i64 i)] ?_;refine kW ?_;refine kC (fun hb=> ?_) fun hb=> ?_
   ·exfalso
    have:(i:Int)<0:=by simpa using hb
    omega
   ·simp only [Int.toNat_natCast]
    refine kW ?_;have hk:=Cr (l.take i) (by rw [gA7];omega);have ho:=yR (tr (l.take i));have hr:=m7 (l.drop (i+1));refine kP [.v (.str (toB (tr (l.take i))))] ?_ ?_
    ·((repeat' apply aI)<;>first|exact kD|(intro g;refine ⟨?_,kG⟩;(repeat' apply aI)<;>first|exact kD|skip)|skip)
     all_goals first|(rw [ae];omega)|(rw [gh _ _ (by omega)];exact hk)|skip
    refine kW ?_;refine kQ [.v (.bool (tG (tr (l.take i))))] ?_;refine kC (fun hb=> ?_) fun hb=> ?_
    ·rw [if_pos (by rw [bH] at hb;simpa [List.isEmpty_iff] using hb)]
     refine kW ?_;refine aR ⟨_,rfl,?_⟩;rfl
    ·rw [if_neg (by rw [bH] at hb;simpa [List.isEmpty_iff] using hb)]
     have j:IntKind.i64.wrap ((i:Nat)+1:Int)=((i+1:Nat):Int):=by rw [aD (by omega) (by omega)];omega
     refine kW ?_;refine kP [.v (.str (toB (tl (l.drop (i+1)))))] ?_ ?_
     ·((repeat' apply aI)<;>first|exact kD|(intro g;refine ⟨?_,kG⟩;(repeat' apply aI)<;>first|exact kD|skip)|skip)
      all_goals first|(rw [j,ae];omega)|(rw [j];omega)|(rw [j,bg];exact hr)|skip
     refine kW ?_;refine aR ⟨_,rfl,?_⟩;rfl
end
section
open Go.RowKit
theorem ej: ∀a b:List Bs,bJ (a++b)=(match bJ a,bJ b with
  |some x,some y=>some (x++y)
  |_,_=>none)
 | [],b=>by
  show bJ b=(match some [],bJ b with|some x,some y=>some (x++y)|_,_=>none);cases bJ b<;>rfl
 |x::a,b=>by
  have ih:=ej a b;rw [List.cons_append,bJ,bJ,ih];cases gf x with
  |none=>rfl
  |some o=>cases bJ a with
   |none=>rfl
   |some p=>cases bJ b with
    |none=>rfl
    |some q=>simp
theorem gM (x:Bs):bJ [x]=(gf x).map fun o=>o.toList:=by
 rw [bJ,bJ];cases gf x<;>simp
def kc (s:ByteArray):Option (List (Nat×Bs)):=bJ ((cj 10 s).map fun x=>x.data.toList)
def lW (l:List (Nat×Bs)):List (List AV):=l.map fun x=> [.int .i64 x.1,.str (toB x.2)]
theorem ke (l:List (Nat×Bs)):(lW l).length=l.length:=List.length_map _
theorem oG: ∀{l:List Bs} {r:List (Nat×Bs)},bJ l=some r→r.length≤l.length
 | [],r,h=>by cases h;simp
 |x::l,r,h=>by
  rw [bJ] at h;cases g:gf x with
  |none=>rw [g] at h;cases h
  |some o=>
   rw [g] at h;cases hl:bJ l with
   |none=>rw [hl] at h;cases h
   |some p=>
    rw [hl] at h;cases h;have:=oG hl;cases o<;>simp<;>omega
theorem oH (s:ByteArray) (hs:s.size≤1000000) {E:Env} (Q:Exit→Fr→St→Prop)
  (h0:kc s=none→ ∀fr st,fr 2=some (.lst .nil 2 [])→fr 3=some (.int .i64 12)→Q .ret fr st)
  (h1: ∀ls,kc s=some ls→ ∀fr st,fr 2=some (.lst (.own 34 (st.row 34)) 2 (lW ls))→fr 3=some (.int .i64 0)→Q .ret fr st):
  AK Tryz.prog E Q [.c pV.body] (dS 0 [.str s]) ⟨fun _=>none,fun _=>0⟩:=by
 show AK _ _ _ [.c j4] _ _;rw [j4];have hsp:=wb 10 s hs;have hle:=pT 10 s;have J:=fun x (h:x∈cj 10 s)=>wc h
 obtain ⟨ps,U⟩: ∃ps,ps=cj 10 s:=⟨_,rfl⟩
 unfold kc at h0 h1;rw [←U] at hsp hle J h0 h1;clear U;refine kW ?_;refine kQ [.v (.lst .any 1 (aRz ps))] ?_;refine kW ?_
 refine aJ (fun i:Nat×(Nat→Nat)=>(ar [(3,.int .i64 0),(4,.lst (.own 34 (i.2 34)) 2 (lW ((bJ ((ps.take i.1).map fun x=>x.data.toList)).getD []))),(9,.lst .any 1 (aRz ps)),(10,.int .i64 (aRz ps).length),(11,.int .i64 i.1)],⟨ag [],i.2⟩))
  (fun i=>i.1≤ps.length∧(bJ ((ps.take i.1).map fun x=>x.data.toList)).isSome=true) (fun i=>ps.length-i.1) (0,fun _=>0) ⟨gB8 _,rfl⟩ (wO ⟨kI,⟨_,rfl,.one (.own _ _ _ _)⟩,kI,kI,kI,trivial⟩ trivial rfl rfl) fun ⟨k,r⟩ ⟨hk,hsm⟩=> ?_
 dsimp only at hk hsm;obtain ⟨acc,j⟩:=Option.isSome_iff_exists.1 hsm;have P:=oG j;rw [List.length_map,gA7] at P;rw [j];refine kW ?_;refine kC (fun hb=> ?_) fun hb=> ?_
 ·have R:k<ps.length:=by simpa [bm] using hb
  obtain ⟨p,hg⟩: ∃x,ps[k]? =some x:=⟨_,gA1 R⟩
  have hpz:=J p (gA2 hg);have hpz' :p.data.toList.length≤1000000:=by show p.size≤_;omega
  have C:(ps.take (k+1)).map (fun x=>x.data.toList)=(ps.take k).map (fun x=>x.data.toList)++ [p.data.toList]:=by
   rw [List.take_add_one,hg,List.map_append];rfl
  have I:ps.map (fun x=>x.data.toList)=(ps.take (k+1)).map (fun x=>x.data.toList)++(ps.drop (k+1)).map (fun x=>x.data.toList):=by
   rw [←List.map_append,List.take_append_drop]
  have hba:=Li p.data.toList hpz';rw [uB] at hba;have hbl:(cP p.data.toList).length≤1000000:=by unfold cP;rw [gA7];omega
  have htr:=Cr (cP p.data.toList) hbl;have htl:=m7 (tr (cP p.data.toList));have hz1:=iI (cP p.data.toList);have hz2:=dl (tr (cP p.data.toList))
  have g:gf p.data.toList=(match tl (tr (cP p.data.toList)) with
   | []=>some none
   |c::t=>if c=9 then none else some (some ((tr (cP p.data.toList)).length-(c::t).length,c::t))):=rfl
  have hne:=bH (tl (tr (cP p.data.toList)));refine kW ?_;refine kP [.c [.str p]] ?_ ?_
  ·((repeat' apply aI)<;>first|exact kD|(intro hgd;refine ⟨?_,kG⟩;(repeat' apply aI)<;>first|exact kD|skip)|skip)
   ·exact lT hg
  refine kW ?_;refine kQ [.v (.str (toB (cP p.data.toList))),.v (.str (toB (tr (cP p.data.toList))))] ?_;refine kW ?_;refine kQ [.v (.str (toB (tl (tr (cP p.data.toList)))))] ?_;refine kW ?_;rw [hne];generalize hY:tr (cP p.data.toList)=y at*;cases hT:tl y with
  |nil=>
   rw [hT] at g;simp only at g;refine kC (fun hb=> ?_) fun hb=> ?_
   ·refine kW ?_
    refine AK.exit rfl ?_;refine kW ?_;refine AK.lp ⟨(k+1,r),⟨by dsimp only;omega,?_⟩,wO ⟨kI,⟨_,rfl,.of_eq ?_⟩,kI,kI,kU,trivial⟩ trivial rfl rfl,by dsimp only;omega⟩
    ·dsimp only
     rw [C,ej,j,gM,g];rfl
    ·dsimp only
     rw [C,ej,j,gM,g];simp
   ·simp at hb
  |cons c t=>
   rw [hT] at g hz2;simp only at g;simp only [gA3] at hz2;have hsz:(toB (c::t)).size=t.length+1:=rfl;have hat:(toB (c::t)).data.getD (0:Int).toNat 0=c:=rfl;refine kC (fun hb=> ?_) fun hb=> ?_
   ·simp at hb
   ·refine kW ?_
    refine kP [] ?_ ?_
    ·((repeat' apply aI)<;>first|exact kD|(intro hgd;refine ⟨?_,kG⟩;(repeat' apply aI)<;>first|exact kD|skip)|skip)
     all_goals first|(rw [hsz];omega)|skip
    rw [hat,show (9:Int)=((9:Nat):Int) from rfl,eH c 9 (by omega)];by_cases h9:c=9
    ·subst h9
     have T:bJ (ps.map fun x=>x.data.toList)=none:=by
      rw [I,C,ej,ej,j,gM,g];rfl
     refine kC (fun hb=> ?_) fun hb=> ?_
     ·refine kW ?_
      exact aR (h0 T _ _ rfl rfl)
     ·simp at hb
    ·rw [if_neg h9] at g
     have hw:IntKind.i64.wrap (((toB y).size:Int)-((toB (c::t)).size:Int))=((y.length-(c::t).length:Nat):Int):=by
      rw [gA3,ae,hsz,aD (by omega) (by omega)];omega
     refine kC (fun hb=> ?_) fun hb=> ?_
     ·simp [h9] at hb
     ·refine kW ?_
      refine kP [] ?_ ?_
      ·((repeat' apply aI)<;>first|exact kD|(intro hgd;refine ⟨?_,kG⟩;(repeat' apply aI)<;>first|exact kD|skip)|skip)
       all_goals simp only [ke,List.length_nil,gA3,Option.getD_some]
       all_goals omega
      refine kW ?_;rw [hw];refine AK.lp ⟨(k+1,_),⟨by dsimp only;omega,?_⟩,wO ⟨kI,⟨_,rfl,.of_eq ?_⟩,kI,kI,kU,trivial⟩ trivial rfl rfl,by dsimp only;omega⟩
      ·dsimp only
       rw [C,ej,j,gM,g];rfl
      ·dsimp only
       rw [C,ej,j,gM,g];simp [lW];exact ⟨by simp [jJ,jK,cf],rfl,rfl⟩
 ·have R:k=ps.length:=by have:ps.length≤k:=by simpa [bm] using hb
                         omega
  subst R;rw [List.take_length] at j;refine AK.exit rfl ?_;refine kW ?_;exact aR (h1 acc j _ _ rfl rfl)
theorem EB (s:ByteArray) (g:s.size≤1000000) (h:kc s=none):AC Tryz.prog 46 [.str s] (.tup [.lst .any 2 [],.int .i64 12]):=by
 refine AC.enter Tryz.func46 fM fN (by rfl) fun E p=>oH s g _ (fun _ fr st i j=>⟨_,by show resVals fr st [.tmp 2,.tmp 3]=_;simp only [resVals,bo,qG,i,j,AV.arg];rfl,rfl⟩) fun r hl=>by rw [h] at hl;cases hl
theorem Hq (s:ByteArray) (g:s.size≤1000000) (h:kc s=some []):AC Tryz.prog 46 [.str s] (.tup [.lst .any 2 [],.int .i64 0]):=by
 refine AC.enter Tryz.func46 fM fN (by rfl) fun E p=>oH s g _ (fun hl=>by rw [h] at hl;cases hl) fun r hl fr st i j=> ?_
 rw [h] at hl;cases hl;exact ⟨_,by show resVals fr st [.tmp 2,.tmp 3]=_;simp only [resVals,bo,qG,i,j,AV.arg];rfl,rfl⟩
theorem Jz (s:ByteArray) (r:s.size≤1000000) {i:List (Nat×Bs)} (h:kc s=some i) (j:i≠ []):MT Tryz.prog 46 [.str s] 2 (lW i) [.int .i64 0]:=by
 refine MT.enter Tryz.func46 fM fN (by rfl) (by rw [ke];exact List.length_pos_iff.2 j) (by omega) (fun c C x g=> ?_) (by simp) (fun x g=> ?_) fun E R=>oH s r _ (fun hl=>by rw [h] at hl;cases hl) fun I hl fr st J P=> ?_
 ·obtain ⟨p,_,rfl⟩:=List.mem_map.1 C
  rcases gB2 g with rfl|g
  ·rfl
  ·rcases gB2 g with rfl|g
   ·rfl
   ·cases g
 ·rcases gB2 g with rfl|g
  ·rfl
  ·cases g
 ·rw [h] at hl
  cases hl;exact ⟨2,34,[.tmp 3],rfl,J,by simp only [resVals,bo,qG,P,AV.arg];rfl⟩
end
section
set_option maxRecDepth 100000
set_option maxHeartbeats 20000000
def yS:List Nat:= [1000131]
noncomputable def EC:ACode:=bK Tryz.prog yS Tryz.f128
noncomputable def ED:AFn:=⟨3,20,EC,[.cell 6 6 true]⟩
theorem nX:aq Tryz.prog yS Tryz.f128=some ED:=kk
theorem nY:ab Tryz.prog 128=true:=kk
end
section
open Go.RowKit
set_option maxRecDepth 100000 in
theorem sD:AC Tryz.prog 131 [.lst .any 7 []] (.lst .full 7 []):=by
 refine ⟨cJ,fun σ w vs C hr hg=> ?_⟩;obtain ⟨v,rfl⟩:=List.length_eq_one_iff.1 hr.1;have R:Rel1 σ v (.lst .any 7 []):=hr.2 0 v _ rfl rfl;obtain ⟨A,cap,b,o,news,rfl,_⟩:=cd R;have T: ∀(w:World) (a:Option Addr) (n c:Nat),(binOp .eql 24 (.slice a n c) (.slice none 0 0)).run Tryz.prog w= .ok (.bool a.isNone) w:=fun w a n c=>by simp [binOp,run_equal_slice_nil w _ _ a n c Tryz.underlying24]
 obtain ⟨i0,I,_⟩:=info_parts dA;have hrel: ∀(A:Option Addr),RelR σ (.slice A 0 0) (.lst .full 7 []):=fun A=> .lst .full 7 [] A 0 0 0 0 (fun _ _=>undef) rfl (by omega) (fun h=>by omega) (fun i c h=>by simp at h) (fun i j h=>by omega) (fun i j c a h=>by simp at h) rfl
 cases A with
 |none=>
  go_enter Tryz.func131,Tryz.ntmps131
  go_wp2
  go_ret
  exact ⟨σ,_,rfl,Ext.refl _ _,C,Below.refl _ _,hrel none⟩
 |some a=>
  have g:=fun ty=>cOz (P:=Tryz.prog) (w.alloc (.cells #[] 78)) 24 ty 78 Tryz.underlying24 I (some ⟨w.heap.size,0,none⟩) (some a) 0 0 cap (by omega)
  go_enter Tryz.func131,Tryz.ntmps131
  go_wp2_with (at_builtin;refine Lib.wpList_append_run _ rfl _ _ _ _ rfl _ _ rfl rfl _ _ (g _) ?_)
  go_wp2
  go_ret
  have r:Below w.heap.size w (w.alloc (.cells #[] 78)):=(Below.refl _ _).alloc (gA4 _) _;exact ⟨σ,_,rfl,Ext.refl _ _,fun b q v J=>(r.cell (p:=⟨b,q,none⟩) (World.block_lt_of_cell? w _ (C _ _ _ J))).trans (C _ _ _ J),r,hrel _⟩
theorem Hr {key:ByteArray} {x:V} {m:List (ByteArray×V)} (h:Rises m):iq (m++ [(key,x)])=ap key x m:=by
 have:=oB (l:=m++ [(key,x)]) (k:=m.length) (p:=(key,x)) (by simp);rw [List.take_of_length_le (by simp),List.take_left',B8 h] at this
 ·exact this
 ·rfl
theorem mI (v:V) (key:ByteArray) (x:V) (I:v.ord) (U:v.size+x.size≤1000000000000):AC Tryz.prog 128 [(vA (v)),.str key,(vA (x))] ((vA ((bP (ap key x v.m))))):=by
 have g:=(V.ord_eq v).1 I;have J:=v.size_eq;have j:=aZ v.m
 have hsz:aA (v.m++ [(key,x)])≤1000000000000:=by
  have: ∀m:List (ByteArray×V),aA (m++ [(key,x)])=aA m+x.size:=by
   intro m
   induction m with
   |nil=>simp [aA]
   |cons p m ih=>obtain ⟨k,u⟩:=p;simp only [List.cons_append,aA,ih];omega
  rw [this];omega
 have C:=fc (v.m++ [(key,x)]) hsz;rw [Hr g.2.2.1,pO,am,am,b9] at C;show AC Tryz.prog 128 [(vA (v)),.str key,(vA (x))] (.agg [.int .i64 5,.bool false,.int .i64 0,.str ⟨#[]⟩,.lst .any 6 [],.lst .any 7 (am (ap key x v.m))]);by_cases r:v.kind=5
 ·have P:=g.1 r
  generalize v.m=m at*;subst P;refine kE Tryz.func128 nX nY fun E R=> ?_
  refine kW ?_;refine kC (fun hb=> ?_) fun hb=> ?_
  ·cases hb
  cases m with
  |nil=>
   refine kW ?_;refine kP [.v (.lst .full 7 []),.v (.agg [.int .i64 5,.bool false,.int .i64 0,.str ⟨#[]⟩,.lst .any 6 [],.lst .any 7 (am (ap key x []))])] ?_ ?_
   ·((repeat' apply aI)<;>first|exact kD|(intro i;refine ⟨?_,kG⟩;(repeat' apply aI)<;>first|exact kD|skip)|skip)
    ·exact sD
   refine kW ?_;refine aR ⟨_,rfl,?_⟩;rfl
  |cons p m=>
   refine kW ?_;refine kP [.o 7 (am (p::m)),.v (.agg [.int .i64 5,.bool false,.int .i64 0,.str ⟨#[]⟩,.lst .any 6 [],.lst .any 7 (am (ap key x (p::m)))])] ?_ ?_
   ·((repeat' apply aI)<;>first|exact kD|(intro i;refine ⟨?_,kG⟩;(repeat' apply aI)<;>first|exact kD|skip)|skip)
    ·exact qR (am (p::m)) (by rw [ak];simp) (by rw [ak];omega)
    all_goals simp only [ak,List.length_nil,gA3,List.length_map] at j⊢
    all_goals omega
   refine kW ?_;refine aR ⟨_,rfl,?_⟩;rfl
 ·have T:=g.2.1 r
  rw [T] at C⊢;refine kE Tryz.func128 nX nY fun E R=> ?_
  refine kW ?_;refine kC (fun hb=> ?_) fun hb=> ?_
  ·refine kW ?_
   refine kP [.v (.lst .full 7 []),.v (.agg [.int .i64 5,.bool false,.int .i64 0,.str ⟨#[]⟩,.lst .any 6 [],.lst .any 7 (am (ap key x []))])] ?_ ?_
   ·((repeat' apply aI)<;>first|exact kD|(intro i;refine ⟨?_,kG⟩;(repeat' apply aI)<;>first|exact kD|skip)|skip)
    ·exact sD
   refine kW ?_;refine aR ⟨_,rfl,?_⟩;rfl
  ·exact absurd (by simpa using hb) r
theorem eu (v:V) (key:ByteArray) (r:v.ord) (hsz:v.size≤1000000000000):AC Tryz.prog 38 [(vA (v)),.str key] (.tup [(vA (((aU key v.m).getD V.null))),.bool (aU key v.m).isSome]):=by
 have C:=v.size_eq;have I:=aZ v.m;have g:=(V.ord_eq v).1 r;have p:=g.2.2.1;cases i:aU key v.m with
 |none=>
  refine kE Tryz.func38 nQ nR fun E J=> ?_
  refine kW ?_;refine kC (fun hb=> ?_) fun hb=> ?_
  ·refine kW ?_
   refine aR ⟨_,rfl,?_⟩;rfl
  refine kW ?_;refine kP [.v (.tup [.int .i64 (bZ key v.m:Nat),.bool (cq key v.m)])] ?_ ?_
  ·((repeat' apply aI)<;>first|exact kD|(intro j;refine ⟨?_,kG⟩;(repeat' apply aI)<;>first|exact kD|skip)|skip)
   ·exact mE v.m key p (by omega)
  rw [BX i];refine kW ?_;refine kC (fun hb=> ?_) fun hb=> ?_
  ·refine kW ?_
   refine aR ⟨_,rfl,?_⟩;rfl
  ·cases hb
 |some x=>
  obtain ⟨P,R⟩:=BW p i;have T:=vV i;refine kE Tryz.func38 nQ nR fun E J=> ?_
  refine kW ?_;refine kC (fun hb=> ?_) fun hb=> ?_
  ·have U:v.kind≠5:=by simpa using hb
   rw [g.2.1 U] at i;cases i
  refine kW ?_;refine kP [.v (.tup [.int .i64 (bZ key v.m:Nat),.bool (cq key v.m)])] ?_ ?_
  ·((repeat' apply aI)<;>first|exact kD|(intro j;refine ⟨?_,kG⟩;(repeat' apply aI)<;>first|exact kD|skip)|skip)
   ·exact mE v.m key p (by omega)
  rw [R];refine kW ?_;refine kC (fun hb=> ?_) fun hb=> ?_
  ·cases hb
  ·refine kW ?_
   refine kP [.c (.str key::(vC (x))),.v ((vA (x)))] ?_ ?_
   ·((repeat' apply aI)<;>first|exact kD|(intro j;refine ⟨?_,kG⟩;(repeat' apply aI)<;>first|exact kD|skip)|skip)
    ·exact aV P
    ·exact fy x (by omega)
   refine kW ?_;refine aR ⟨_,rfl,?_⟩;rfl
end
end Go.Proofs.YtbgflifmanjpjaaGreatDoor
