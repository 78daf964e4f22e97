/- Part 20. -/
import Derived.Test.YtbgflifmanjpjaaGreatDoorS19
set_option linter.unusedSimpArgs false
set_option linter.unusedVariables false
namespace Go.Proofs.YtbgflifmanjpjaaGreatDoor
section
open Go.RowKit
theorem Eu (s:ByteArray):toB s.data.toList=s:=rfl
theorem lv (l:Bs):(toB l).data.toList=l:=rfl
theorem ae (l:Bs):(toB l).size=l.length:=rfl
theorem ei {l:Bs} {k:Nat} {c:UInt8} (h:l[k]? =some c):(toB l).data.getD k 0=c:=by
 have:=(gA0 h)
 obtain ⟨g,i⟩:=this;rw [Array.getD,dif_pos (show k<(toB l).data.size from g)];exact i
theorem y4 (l:Bs) (a b:Nat) (h:b≤l.length):(toB l).extract a b=toB ((l.take b).drop a):=by
 apply ByteArray.ext;apply Array.toList_inj.1;rw [ByteArray.data_extract];simp [toB,List.extract_eq_take_drop];rw [List.drop_take]
theorem uY (l:Bs) (b:Nat) (h:b≤l.length):(toB l).extract 0 b=toB (l.take b):=by rw [y4 l 0 b h];rfl
theorem fe (l:Bs) (a:Nat):(toB l).extract a (toB l).size=toB (l.drop a):=by
 rw [ae,y4 l a _ (gA4 _),List.take_length]
theorem cL {a b:Bs}:toB a=toB b↔a=b:=⟨fun h=>by have:=congrArg (fun x=>x.data.toList) h;exact this,fun h=>by rw [h]⟩
theorem AC.of2 {f:FuncId} {x y:ByteArray} {v:Value} {r:AV} (g:ab Tryz.prog f=true) (hr: ∀σ,RelR σ v r) (h: ∀w,GW w→Calls Tryz.prog f #[.string x,.string y] w fun e w' =>e= .returned v∧w' =w):AC Tryz.prog f [.str x,.str y] r:=by
 refine ⟨g,fun σ w vs C i hg=> ?_⟩;obtain ⟨v1,v2,rfl,j,p⟩:=pc i;have j:Rel1 σ v1 (.str x):=j;have p:Rel1 σ v2 (.str y):=p;cases j;cases p;refine (h w hg).mono ?_;rintro e w' ⟨rfl,rfl⟩;exact ⟨σ,_,rfl,Ext.refl _ _,C,Below.refl _ _,hr σ⟩
theorem mE (l:Bs):AC Tryz.prog 89 [.str (toB l),.str ⟨#[32]⟩] (.str (toB (tl l))):=AC.of2 (by kernel_rfl) (fun _=>Rel1.str _) fun w _=>Tryz.strings_TrimLeft_one (toB l) 32 (by decide) w
theorem Dg (l:Bs) (hl:l.length≤1000000):AC Tryz.prog 87 [.str (toB l),.str ⟨#[32]⟩] (.str (toB (tr l))):=AC.of2 (by kernel_rfl) (fun _=>Rel1.str _) fun w _=>Tryz.strings_TrimRight_one (toB l) 32 (by decide) w (by show l.length≤_;omega)
theorem qv (l p:Bs) (hl:l.length≤1000000):AC Tryz.prog 107 [.str (toB l),.str (toB p)] (.bool (Lib.hasSuffix l p)):=AC.of2 (by kernel_rfl) (fun _=>Rel1.bool _) fun w _=>Tryz.strings_HasSuffix (toB l) (toB p) w (by show l.length≤_;omega)
theorem Ev (l p:Bs) (hl:l.length≤1000000):AC Tryz.prog 104 [.str (toB l),.str (toB p)] (.int .i64 (Lib.index l p)):=AC.of2 (by kernel_rfl) (fun _=>Rel1.int _ _) fun w hg=>by
 obtain ⟨m,g⟩:=hg.num 0 (by simp [zQ]);exact Tryz.strings_Index (toB l) (toB p) m w (by show l.length<_;omega) g
theorem nV (l p:Bs) (hl:l.length≤1000000):AC Tryz.prog 175 [.str (toB l),.str (toB p)] (.bool (Lib.contains l p)):=AC.of2 (by kernel_rfl) (fun _=>Rel1.bool _) fun w hg=>by
 obtain ⟨m,g⟩:=hg.num 0 (by simp [zQ]);exact Tryz.strings_Contains (toB l) (toB p) m w (by show l.length<_;omega) g
theorem A8 (l:Bs) (c:UInt8):AC Tryz.prog 101 [.str (toB l),.int .u8 c.toNat] (.int .i64 (Lib.indexByte l c)):=by
 have h:=rB (toB l) c.toNat;rw [show ((c.toNat:Int).toNat).toUInt8=c by simp] at h;exact h
theorem y5 (l:Bs) (c:UInt8):decide (0≤Lib.indexByte l c)=l.contains c:=by
 rw [Bool.eq_iff_iff,gB0,List.contains_iff_mem];rcases ma l c with ⟨g,j⟩|⟨i,g,j,p,r⟩
 ·rw [g];exact ⟨fun h=>absurd h (by omega),fun h=>absurd h j⟩
 ·rw [g];exact ⟨fun _=>gA2 p,fun _=>by omega⟩
theorem jK (l p:Bs):eE (toB l) (toB p)=p.isPrefixOf l:=by
 rw [Bool.eq_iff_iff,eE,gA9,gB0,gB0,List.isPrefixOf_iff_prefix,ae,ae];constructor
 ·rintro ⟨i,g⟩
  rw [uY l _ i,cL] at g;rw [←g];exact List.take_prefix _ _
 ·intro h
  refine ⟨h.length_le,?_⟩;rw [uY l _ h.length_le,cL];exact (List.prefix_iff_eq_take.1 h).symm
theorem iL (l:Bs) (c:UInt8):eE (toB l) ⟨#[c]⟩=(match l with| []=>false|d::_=>d==c):=by
 rw [show (⟨#[c]⟩:ByteArray)=toB [c] from rfl,jK];cases l with
 |nil=>rfl
 |cons d l=>simp [List.isPrefixOf,eq_comm (a:=c),BEq.comm (a:=c)]
theorem Dh (l:Bs):AC Tryz.prog 91 [.str (toB l)] (.bool (dq l)):=by
 have h:=rE (toB l) (toB [45,32]);rw [jK] at h
 have e:decide (toB l=⟨#[45]⟩)=(l== [45]):=by
  rw [show (⟨#[45]⟩:ByteArray)=toB [45] from rfl,Bool.eq_iff_iff,gB0,cL,beq_iff_eq]
 refine kE Tryz.func91 uU uV fun E g=> ?_
 refine kW ?_;refine kQ [.v (.bool ([45,32].isPrefixOf l))] ?_;refine kW ?_;refine aR ⟨_,rfl,?_⟩;rw [e];rfl
theorem xC (l:Bs):AC Tryz.prog 146 [.str (toB l)] (.bool (sv l)):=by
 cases l with
 |nil=>
  have h:=A8 ([91,93,123,125,44,38,42,33,124,62,37,64,35,63,58,34,39,96]:Bs) 0;refine kE Tryz.func146 nf nh fun E i=> ?_
  refine kW ?_;refine kQ [.v (.int .i64 0)] ?_;refine kW ?_;refine aR ⟨_,rfl,?_⟩;rfl
 |cons c l=>
  have h:=A8 ([91,93,123,125,44,38,42,33,124,62,37,64,35,63,58,34,39,96]:Bs) c;have j:=y5 ([91,93,123,125,44,38,42,33,124,62,37,64,35,63,58,34,39,96]:Bs) c
  have g:decide (toB (c::l)=⟨#[]⟩)=false:=by
   rw [show (⟨#[]⟩:ByteArray)=toB [] from rfl,decide_eq_false_iff_not,cL];simp
  have p:(toB (c::l)).data.getD (0:Int).toNat 0=c:=ei (k:=0) rfl;have hsz:(0:Int)<(toB (c::l)).size:=by rw [ae,gA3];omega
  refine kE Tryz.func146 nf nh fun E i=> ?_
  refine kW ?_;refine kQ [.v (.int .i64 (Lib.indexByte ([91,93,123,125,44,38,42,33,124,62,37,64,35,63,58,34,39,96]:Bs) c))] ?_;refine kW ?_;refine aR ⟨_,rfl,?_⟩;rw [g];exact congrArg AV.bool j
theorem Hy (c:UInt8):(decide ((c.toNat:Int)=34)||decide ((c.toNat:Int)=39))=isQ c:=by
 have e: ∀n:Nat,n<256→(decide ((c.toNat:Int)=n))=(c==n.toUInt8):=fun n hn=>by
  rw [Bool.eq_iff_iff,gB0,beq_iff_eq,←UInt8.toNat_inj];simp [Nat.mod_eq_of_lt hn];omega
 rw [show ((34:Int))=((34:Nat):Int) from rfl,show ((39:Int))=((39:Nat):Int) from rfl,e 34 (by omega),e 39 (by omega)];rfl
theorem ej (c:UInt8) (n:Nat) (hn:n<256):decide ((c.toNat:Int)=(n:Int))=(c==n.toUInt8):=by
 rw [Bool.eq_iff_iff,gB0,beq_iff_eq,←UInt8.toNat_inj];simp [Nat.mod_eq_of_lt hn];omega
theorem Jk (l:Bs) (i:Nat) (c:UInt8) (hi:l[i]? =some c) (hl:l.length≤1000000):AC Tryz.prog 142 [.str (toB l),.int .i64 i] (.bool (isQ c&&Et (pm l i))):=by
 have J:=(gA0 hi).1;have g:(toB l).data.getD (i:Int).toNat 0=c:=ei (by simpa using hi);have hsz:(i:Int)<(toB l).size:=by rw [ae];omega
 have r:=Hy c;rcases i with _|i
 ·have h:=A8 ([32,91,123,44]:Bs) c
  refine kE Tryz.func142 ke kf fun E P=> ?_
  refine kW ?_;refine kP [.v (.int .i64 0)] ?_ ?_
  ·((repeat' apply aI)<;>first|exact kD|(intro j;refine ⟨?_,kG⟩;(repeat' apply aI)<;>first|exact kD|skip)|skip)
   all_goals (exfalso;simp [gd] at j)
  refine kW ?_;refine aR ⟨_,rfl,?_⟩;refine congrArg AV.bool ?_;rw [g];rw [r];rfl
 ·obtain ⟨d,C⟩: ∃d,l[i]? =some d:=⟨_,gA1 (by omega)⟩
  have h:=A8 ([32,91,123,44]:Bs) d;have R:=y5 ([32,91,123,44]:Bs) d;have I:IntKind.i64.wrap (((i+1:Nat):Int)-1)=(i:Int):=by rw [aD (by omega) (by omega)];omega
  have p:(toB l).data.getD (IntKind.i64.wrap (((i+1:Nat):Int)-1)).toNat 0=d:=by rw [I];exact ei (by simpa using C)
  refine kE Tryz.func142 ke kf fun E P=> ?_
  refine kW ?_;refine kP [.v (.int .i64 (Lib.indexByte ([32,91,123,44]:Bs) d))] ?_ ?_
  ·((repeat' apply aI)<;>first|exact kD|(intro j;refine ⟨?_,kG⟩;(repeat' apply aI)<;>first|exact kD|skip)|skip)
   all_goals first|(rw [I];omega)|(rw [p];exact h)|skip
  refine kW ?_;refine aR ⟨_,rfl,?_⟩;refine congrArg AV.bool ?_;rw [g,r];have T:decide (((i+1:Nat):Int)=0)=false:=by rw [decide_eq_false_iff_not];omega
  rw [T];have U:pm l (i+1)=some d:=by rw [pm,if_neg (by omega)];exact C
  rw [U];simp only [Bool.false_or];congr 1;show decide (0≤_)=_;rw [R];simp only [Et,List.contains,List.elem];cases d==32<;>cases d==91<;>cases d==123<;>cases d==44<;>rfl
end
section
open Go.RowKit
theorem bw (l:Bs):decide (toB l=⟨#[]⟩)=l.isEmpty:=by
 rw [show (⟨#[]⟩:ByteArray)=toB [] from rfl,Bool.eq_iff_iff,gB0,cL,List.isEmpty_iff]
theorem ba (l:Bs) (i:Nat):(toB l).extract (i:Int).toNat ((toB l).size:Int).toNat=toB (l.drop i):=fe l i
theorem fJ (l:Bs) (i:Nat) (h:i≤l.length):(toB l).extract (0:Int).toNat (i:Int).toNat=toB (l.take i):=uY l i h
theorem fR {l:Bs} {i:Nat} {c:UInt8} (h:l[i]? =some c):l.drop i=c::l.drop (i+1):=by
 rw [List.drop_eq_getElem_cons (gA0 h).1,(gA0 h).2]
theorem KR (l:Bs) (i:Nat) (c:UInt8) (hi:l[i]? =some c) (hl:l.length≤1000000):
  (decide ((((toB l).data.getD (i:Int).toNat 0).toNat:Int)=35)&&(decide ((i:Int)=0)||decide ((((toB l).data.getD (IntKind.i64.wrap ((i:Int)-1)).toNat 0).toNat:Int)=32)))=(c==35&&Hw (pm l i)):=by
 have r:=(gA0 hi).1;have j:(toB l).data.getD (i:Int).toNat 0=c:=ei (by simpa using hi);rw [j,show (35:Int)=((35:Nat):Int) from rfl,ej c 35 (by omega)];congr 1;rcases i with _|i
 ·rfl
 ·obtain ⟨d,p⟩: ∃d,l[i]? =some d:=⟨_,gA1 (by omega)⟩
  have C:IntKind.i64.wrap (((i+1:Nat):Int)-1)=(i:Int):=by rw [aD (by omega) (by omega)];omega
  have g:(toB l).data.getD (IntKind.i64.wrap (((i+1:Nat):Int)-1)).toNat 0=d:=by rw [C];exact ei (by simpa using p)
  have I:decide (((i+1:Nat):Int)=0)=false:=by rw [decide_eq_false_iff_not];omega
  have J:pm l (i+1)=some d:=by rw [pm,if_neg (by omega)];exact p
  rw [I,g,J,show (32:Int)=((32:Nat):Int) from rfl,ej d 32 (by omega)];rfl
theorem Jl (l:Bs) (hl:l.length≤1000000):AC Tryz.prog 88 [.str (toB l)] (.str (toB (cy l))):=by
 have T:=fun k=>iH (toB (l.drop k)) (by rw [ae,gA6];omega)
 refine kE Tryz.func88 uS uT fun E g=> ?_
 refine kW ?_;refine aJ (fun i:Nat=>(ax [(0,.str (toB l)),(3,.int .i64 i)],⟨ah [],fun _=>0⟩)) (fun i=>i≤l.length∧ ∃n,l.length<n+i∧rF l n i=rF l (l.length+1) 0) (fun i=>l.length-i) 0 ⟨by omega,l.length+1,by omega,rfl⟩ (wO ⟨kI,kI,trivial⟩ trivial rfl rfl) fun i ⟨hi,n,hn,g⟩=> ?_
 refine kW ?_;refine kC (fun hb=> ?_) fun hb=> ?_
 ·have C:i<l.length:=by simpa [ae] using hb
  obtain ⟨c,I⟩: ∃c,l[i]? =some c:=⟨_,gA1 C⟩
  have P:=KR l i c I hl;have U:=Jk l i c I hl;obtain ⟨n,rfl⟩: ∃m,n=m+1:=⟨n-1,by omega⟩
  rw [rF,fR I] at g;simp only at g;have hsz:(i:Int)<(toB l).size:=by rw [ae];omega
  refine kW ?_;refine kP [] ?_ ?_
  ·((repeat' apply aI)<;>first|exact kD|(intro r;refine ⟨?_,kG⟩;(repeat' apply aI)<;>first|exact kD|skip)|skip)
   all_goals first
    |(rw [ae];omega)
    |(have R: ¬(i:Int)=0:=by
         intro R;simp [gd,R] at r
      rw [aD (by omega) (by omega)]
      first|omega|(rw [ae];omega))
  refine kC (fun hb=> ?_) fun hb=> ?_
  ·rw [P] at hb
   rw [if_pos hb] at g;refine kW ?_;refine kP [] ?_ ?_
   ·((repeat' apply aI)<;>first|exact kD|(intro r;refine ⟨?_,kG⟩;(repeat' apply aI)<;>first|exact kD|skip)|skip)
    all_goals (rw [ae];omega)
   refine kW ?_;refine aR ⟨_,rfl,?_⟩
   have e:(toB l).extract (0:Int).toNat (i:Int).toNat=toB (cy l):=by
    rw [cy,←g];exact uY l i hi
   rw [e];rfl
  ·rw [P] at hb
   rw [if_neg (by rw [hb];simp)] at g;refine kW ?_;refine kQ [.v (.bool (isQ c&&Et (pm l i)))] ?_;refine kC (fun hb=> ?_) fun hb=> ?_
   ·rw [if_pos hb] at g
    have j:=T i;rw [yU,lv,fR I] at j;cases J:lr (c::l.drop (i+1)) with
    |none=>
     rw [J] at g j;simp only [qA] at g j;refine kW ?_;refine kP [.v (.tup [.str ⟨#[]⟩,.str ⟨#[]⟩,.int .i64 11])] ?_ ?_
     ·((repeat' apply aI)<;>first|exact kD|(intro r;refine ⟨?_,kG⟩;(repeat' apply aI)<;>first|exact kD|skip)|skip)
      all_goals first|(rw [ae];omega)|skip
      rw [ba,fR I];exact j
     refine kW ?_;refine kC (fun hb=> ?_) fun hb=> ?_
     ·refine kW ?_
      refine aR ⟨_,rfl,?_⟩;rw [cy,←g,List.take_length];rfl
     ·simp at hb
    |some p=>
     obtain ⟨x,rest⟩:=p;rw [J] at g j;simp only [qA] at g j;have hz:=gT J;simp only [gA3,gA6] at hz;refine kW ?_;refine kP [.v (.tup [.str ⟨x.toArray⟩,.str ⟨rest.toArray⟩,.int .i64 0])] ?_ ?_
     ·((repeat' apply aI)<;>first|exact kD|(intro r;refine ⟨?_,kG⟩;(repeat' apply aI)<;>first|exact kD|skip)|skip)
      all_goals first|(rw [ae];omega)|skip
      rw [ba,fR I];exact j
     refine kW ?_;refine kC (fun hb=> ?_) fun hb=> ?_
     ·simp at hb
     ·refine kW ?_
      refine AK.lp ⟨l.length-rest.length,⟨by omega,n,by omega,g⟩,(wO ⟨kI,⟨_,rfl,.of_eq (congrArg _ ?_)⟩,trivial⟩ trivial rfl rfl),by omega⟩;rw [ae,show (ByteArray.mk rest.toArray).size=rest.length from rfl];have w1:IntKind.i64.wrap ((l.length:Int)-(rest.length:Int))=(l.length:Int)-(rest.length:Int):=aD (by omega) (by omega);have w2:IntKind.i64.wrap ((l.length:Int)-(rest.length:Int)-1)=(l.length:Int)-(rest.length:Int)-1:=aD (by omega) (by omega);rw [w1,w2,aD (by omega) (by omega)];omega
   ·rw [if_neg (by rw [hb];simp)] at g
    refine kW ?_;exact AK.lp ⟨i+1,⟨by omega,n,by omega,g⟩,wO ⟨kI,kU,trivial⟩ trivial rfl rfl,by omega⟩
 ·have C:i=l.length:=by have:l.length≤i:=by simpa [ae] using hb
                        omega
  subst C;refine AK.exit rfl ?_;refine kW ?_;refine aR ⟨_,rfl,?_⟩
  have e:cy l=l:=by
   rw [cy,←g];cases n with
   |zero=>rw [rF,List.take_length]
   |succ n=>rw [rF,List.drop_length];exact List.take_length
  rw [e];rfl
def y6:Option (Bs×Bs)→AV
 |none=> .tup [.str ⟨#[]⟩,.str ⟨#[]⟩,.bool false]
 |some (k,r)=> .tup [.str (toB k),.str (toB r),.bool true]
theorem uZ (l:Bs):((!decide (toB l=⟨#[]⟩))&&(decide ((((toB l).data.getD (0:Int).toNat 0).toNat:Int)=34)||decide ((((toB l).data.getD (0:Int).toNat 0).toNat:Int)=39)))=yV l:=by
 rw [bw];cases l with
 |nil=>rfl
 |cons c l=>
  rw [show (toB (c::l)).data.getD (0:Int).toNat 0=c from ei (k:=0) rfl,Hy];rfl
theorem Ew (l:Bs) (hl:l.length≤1000000):AC Tryz.prog 90 [.str (toB l)] (y6 (cP l)):=by
 have I:=iH (toB l) (by rw [ae];omega);rw [yU,lv] at I;have hq:=uZ l;unfold cP;refine kE Tryz.func90 sw sy fun E hE=> ?_
 refine kW ?_;refine kP [] ?_ ?_
 ·((repeat' apply aI)<;>first|exact kD|(intro g;refine ⟨?_,kG⟩;(repeat' apply aI)<;>first|exact kD|skip)|skip)
  all_goals
   cases l with
   |nil=>simp [gd,bw] at g
   |cons c l=>rw [ae,gA3];omega
 refine kC (fun hb=> ?_) fun hb=> ?_
 ·rw [hq] at hb
  rw [if_pos hb];refine kW ?_;cases U:lr l with
  |none=>
   rw [U] at I;simp only [qA] at I;refine kQ [.v (.tup [.str ⟨#[]⟩,.str ⟨#[]⟩,.int .i64 11])] ?_;refine kW ?_;refine kP [.v (.bool false)] ?_ ?_
   ·((repeat' apply aI)<;>first|exact kD|(intro g;refine ⟨?_,kG⟩;(repeat' apply aI)<;>first|exact kD|skip)|skip)
    all_goals (exfalso;simp [gd] at g)
   refine kC (fun hb=> ?_) fun hb=> ?_
   ·refine kW ?_
    refine aR ⟨_,rfl,?_⟩;rfl
   ·simp at hb
  |some p=>
   obtain ⟨key,rest⟩:=p;rw [U] at I;simp only [qA] at I;have hz:=gT U;have R:=rE (toB rest) ⟨#[58]⟩;rw [iL] at R;refine kQ [.v (.tup [.str ⟨key.toArray⟩,.str ⟨rest.toArray⟩,.int .i64 0])] ?_;refine kW ?_;cases rest with
   |nil=>
    refine kP [.v (.bool false)] ?_ ?_
    ·((repeat' apply aI)<;>first|exact kD|(intro g;refine ⟨?_,kG⟩;(repeat' apply aI)<;>first|exact kD|skip)|skip)
     all_goals first|exact R|(exfalso;simp [gd] at g;done)|skip
    refine kC (fun hb=> ?_) fun hb=> ?_
    ·refine kW ?_
     refine aR ⟨_,rfl,?_⟩;rfl
    ·simp at hb
   |cons c r=>
    have hsz:(ByteArray.mk (c::r).toArray).size=r.length+1:=rfl;simp only at R;refine kP [.v (.bool (c==58))] ?_ ?_
    ·((repeat' apply aI)<;>first|exact kD|(intro g;refine ⟨?_,kG⟩;(repeat' apply aI)<;>first|exact kD|skip)|skip)
     all_goals first
      |exact R
      |(rw [hsz]
        have T:(1:Int)<((r.length+1:Nat):Int):=by
         rw [hsz] at g;simp [gd] at g;omega
        omega)
    by_cases C:c=58
    ·subst C
     have J:(ByteArray.mk ((58:UInt8)::r).toArray).extract (1:Int).toNat ((ByteArray.mk ((58:UInt8)::r).toArray).size:Int).toNat=toB r:=fe (58::r) 1;have ht:=mE r;cases r with
     |nil=>
      refine kC (fun hb=> ?_) fun hb=> ?_
      ·simp [hsz] at hb
      ·refine kW ?_
       refine kP [.v (.str (toB (tl [])))] ?_ ?_
       ·((repeat' apply aI)<;>first|exact kD|(intro g;refine ⟨?_,kG⟩;(repeat' apply aI)<;>first|exact kD|skip)|skip)
        all_goals first|(rw [hsz];simp;done)|(rw [J];exact ht)|skip
       refine kW ?_;refine aR ⟨_,rfl,?_⟩;rfl
     |cons d r=>
      have hat:(ByteArray.mk ((58:UInt8)::d::r).toArray).data.getD (1:Int).toNat 0=d:=rfl;rw [hat,show (32:Int)=((32:Nat):Int) from rfl,ej d 32 (by omega),hsz];by_cases P:d=32
      ·subst P
       refine kC (fun hb=> ?_) fun hb=> ?_
       ·simp at hb
       ·refine kW ?_
        refine kP [.v (.str (toB (tl (32::r))))] ?_ ?_
        ·((repeat' apply aI)<;>first|exact kD|(intro g;refine ⟨?_,kG⟩;(repeat' apply aI)<;>first|exact kD|skip)|skip)
         all_goals first|(rw [hsz];simp;omega)|(rw [J];exact ht)|skip
        refine kW ?_;refine aR ⟨_,rfl,?_⟩;rfl
      ·refine kC (fun hb=> ?_) fun hb=> ?_
       ·refine kW ?_
        refine aR ⟨_,rfl,?_⟩;simp [P,y6];rfl
       ·exfalso
        simp [P] at hb;omega
    ·refine kC (fun hb=> ?_) fun hb=> ?_
     ·refine kW ?_
      refine aR ⟨_,rfl,?_⟩;simp [C,y6];rfl
     ·exfalso
      simp [C] at hb
 ·rw [hq] at hb
  rw [if_neg (by rw [hb];simp)];have hi:=Ev l [58,32] hl;have hsf:=qv l [58] hl;refine kW ?_;rcases Lib.index_spec l [58,32] with ⟨T,_⟩|⟨i,T,_⟩
  ·rw [T] at hi⊢
   rw [if_pos (by omega)];refine kQ [.v (.int .i64 (-1))] ?_;refine kW ?_;refine kC (fun hb=> ?_) fun hb=> ?_
   ·refine kW ?_
    refine kQ [.v (.bool (Lib.hasSuffix l [58]))] ?_;refine kC (fun hb=> ?_) fun hb=> ?_
    ·rw [if_neg (by simpa using hb)]
     refine kW ?_;refine aR ⟨_,rfl,?_⟩;rfl
    ·have hs:Lib.hasSuffix l [58]=true:=by simpa using hb
     rw [if_pos hs]
     have hne:1≤l.length:=by
      cases l with
      |nil=>simp [Lib.hasSuffix] at hs
      |cons c l=>simp
     have hw:IntKind.i64.wrap (((toB l).size:Int)-1)=((l.length-1:Nat):Int):=by rw [ae,aD (by omega) (by omega)];omega
     have P:l.drop (l.length-1+1)= []:=by rw [show l.length-1+1=l.length by omega];exact List.drop_length
     refine kW ?_;rw [hw];have hk:=Dg (l.take (l.length-1)) (by rw [gA7];omega);have ho:=xC (tr (l.take (l.length-1)));have hr:=mE (l.drop ((l.length-1)+1));refine kP [.v (.str (toB (tr (l.take (l.length-1)))))] ?_ ?_
     ·((repeat' apply aI)<;>first|exact kD|(intro g;refine ⟨?_,kG⟩;(repeat' apply aI)<;>first|exact kD|skip)|skip)
      all_goals first|(rw [ae];omega)|(rw [fJ _ _ (by omega)];exact hk)|skip
     refine kW ?_;refine kQ [.v (.bool (sv (tr (l.take (l.length-1)))))] ?_;refine kC (fun hb=> ?_) fun hb=> ?_
     ·rw [if_pos (by rw [bw] at hb;simpa [List.isEmpty_iff] using hb)]
      refine kW ?_;refine aR ⟨_,rfl,?_⟩;rfl
     ·rw [if_neg (by rw [bw] at hb;simpa [List.isEmpty_iff] using hb)]
      have j:IntKind.i64.wrap (((l.length-1):Nat)+1:Int)=(((l.length-1)+1:Nat):Int):=by rw [aD (by omega) (by omega)];omega
      refine kW ?_;refine kP [.v (.str (toB (tl (l.drop ((l.length-1)+1)))))] ?_ ?_
      ·((repeat' apply aI)<;>first|exact kD|(intro g;refine ⟨?_,kG⟩;(repeat' apply aI)<;>first|exact kD|skip)|skip)
       all_goals first|(rw [j,ae];omega)|(rw [j];omega)|(rw [j,ba];exact hr)|skip
      refine kW ?_;refine aR ⟨_,rfl,?_⟩
      (rw [P];rfl)
   ·simp at hb
  ·have h2:=Lib.index_room l [58,32] (by omega)
   rw [T] at hi h2⊢;rw [if_neg (by omega)];simp only [gA3,List.length_nil] at h2;refine kQ [.v (.int .i64 i)] ?_;refine kW ?_;refine kC (fun hb=> ?_) fun hb=> ?_
   ·exfalso
    have:(i:Int)<0:=by simpa using hb
    omega
   ·simp only [Int.toNat_natCast]
    refine kW ?_;have hk:=Dg (l.take i) (by rw [gA7];omega);have ho:=xC (tr (l.take i));have hr:=mE (l.drop (i+1));refine kP [.v (.str (toB (tr (l.take i))))] ?_ ?_
    ·((repeat' apply aI)<;>first|exact kD|(intro g;refine ⟨?_,kG⟩;(repeat' apply aI)<;>first|exact kD|skip)|skip)
     all_goals first|(rw [ae];omega)|(rw [fJ _ _ (by omega)];exact hk)|skip
    refine kW ?_;refine kQ [.v (.bool (sv (tr (l.take i))))] ?_;refine kC (fun hb=> ?_) fun hb=> ?_
    ·rw [if_pos (by rw [bw] at hb;simpa [List.isEmpty_iff] using hb)]
     refine kW ?_;refine aR ⟨_,rfl,?_⟩;rfl
    ·rw [if_neg (by rw [bw] at hb;simpa [List.isEmpty_iff] using hb)]
     have j:IntKind.i64.wrap ((i:Nat)+1:Int)=((i+1:Nat):Int):=by rw [aD (by omega) (by omega)];omega
     refine kW ?_;refine kP [.v (.str (toB (tl (l.drop (i+1)))))] ?_ ?_
     ·((repeat' apply aI)<;>first|exact kD|(intro g;refine ⟨?_,kG⟩;(repeat' apply aI)<;>first|exact kD|skip)|skip)
      all_goals first|(rw [j,ae];omega)|(rw [j];omega)|(rw [j,ba];exact hr)|skip
     refine kW ?_;refine aR ⟨_,rfl,?_⟩;rfl
end
section
open Go.RowKit
theorem dR: ∀a b:List Bs,bC (a++b)=(match bC a,bC b with
  |some x,some y=>some (x++y)
  |_,_=>none)
 | [],b=>by
  show bC b=(match some [],bC b with|some x,some y=>some (x++y)|_,_=>none);cases bC b<;>rfl
 |x::a,b=>by
  have ih:=dR a b;rw [List.cons_append,bC,bC,ih];cases fH x with
  |none=>rfl
  |some o=>cases bC a with
   |none=>rfl
   |some p=>cases bC b with
    |none=>rfl
    |some q=>simp
theorem gn (x:Bs):bC [x]=(fH x).map fun o=>o.toList:=by
 rw [bC,bC];cases fH x<;>simp
def jL (s:ByteArray):Option (List (Nat×Bs)):=bC ((bX 10 s).map fun x=>x.data.toList)
def lw (l:List (Nat×Bs)):List (List AV):=l.map fun x=> [.int .i64 x.1,.str (toB x.2)]
theorem jM (l:List (Nat×Bs)):(lw l).length=l.length:=List.length_map _
theorem nW: ∀{l:List Bs} {r:List (Nat×Bs)},bC l=some r→r.length≤l.length
 | [],r,h=>by cases h;simp
 |x::l,r,h=>by
  rw [bC] at h;cases g:fH x with
  |none=>rw [g] at h;cases h
  |some o=>
   rw [g] at h;cases hl:bC l with
   |none=>rw [hl] at h;cases h
   |some p=>
    rw [hl] at h;cases h;have:=nW hl;cases o<;>simp<;>omega
theorem nX (s:ByteArray) (hs:s.size≤1000000) {E:Env} (Q:Exit→Fr→St→Prop)
  (h0:jL s=none→ ∀fr st,fr 2=some (.lst .nil 2 [])→fr 3=some (.int .i64 12)→Q .ret fr st)
  (h1: ∀ls,jL s=some ls→ ∀fr st,fr 2=some (.lst (.own 34 (st.row 34)) 2 (lw ls))→fr 3=some (.int .i64 0)→Q .ret fr st):
  AK Tryz.prog E Q [.c pn.body] (dC 0 [.str s]) ⟨fun _=>none,fun _=>0⟩:=by
 show AK _ _ _ [.c jD] _ _;rw [jD];have hsp:=AW 10 s hs;have hle:=yT 10 s;have J:=fun x (h:x∈bX 10 s)=>AX h
 obtain ⟨ps,U⟩: ∃ps,ps=bX 10 s:=⟨_,rfl⟩
 unfold jL at h0 h1;rw [←U] at hsp hle J h0 h1;clear U;refine kW ?_;refine kQ [.v (.lst .any 1 (bJ ps))] ?_;refine kW ?_
 refine aJ (fun i:Nat×(Nat→Nat)=>(ax [(3,.int .i64 0),(4,.lst (.own 34 (i.2 34)) 2 (lw ((bC ((ps.take i.1).map fun x=>x.data.toList)).getD []))),(9,.lst .any 1 (bJ ps)),(10,.int .i64 (bJ ps).length),(11,.int .i64 i.1)],⟨ah [],i.2⟩))
  (fun i=>i.1≤ps.length∧(bC ((ps.take i.1).map fun x=>x.data.toList)).isSome=true) (fun i=>ps.length-i.1) (0,fun _=>0) ⟨gB8 _,rfl⟩ (wO ⟨kI,⟨_,rfl,.one (.own _ _ _ _)⟩,kI,kI,kI,trivial⟩ trivial rfl rfl) fun ⟨k,r⟩ ⟨hk,hsm⟩=> ?_
 dsimp only at hk hsm;obtain ⟨acc,j⟩:=Option.isSome_iff_exists.1 hsm;have P:=nW j;rw [List.length_map,gA7] at P;rw [j];refine kW ?_;refine kC (fun hb=> ?_) fun hb=> ?_
 ·have R:k<ps.length:=by simpa [dh] using hb
  obtain ⟨p,hg⟩: ∃x,ps[k]? =some x:=⟨_,gA1 R⟩
  have hpz:=J p (gA2 hg);have hpz' :p.data.toList.length≤1000000:=by show p.size≤_;omega
  have C:(ps.take (k+1)).map (fun x=>x.data.toList)=(ps.take k).map (fun x=>x.data.toList)++ [p.data.toList]:=by
   rw [List.take_add_one,hg,List.map_append];rfl
  have I:ps.map (fun x=>x.data.toList)=(ps.take (k+1)).map (fun x=>x.data.toList)++(ps.drop (k+1)).map (fun x=>x.data.toList):=by
   rw [←List.map_append,List.take_append_drop]
  have hba:=Jl p.data.toList hpz';rw [Eu] at hba;have hbl:(cy p.data.toList).length≤1000000:=by unfold cy;rw [gA7];omega
  have htr:=Dg (cy p.data.toList) hbl;have htl:=mE (tr (cy p.data.toList));have hz1:=ia (cy p.data.toList);have hz2:=cQ (tr (cy p.data.toList))
  have g:fH p.data.toList=(match tl (tr (cy p.data.toList)) with
   | []=>some none
   |c::t=>if c=9 then none else some (some ((tr (cy p.data.toList)).length-(c::t).length,c::t))):=rfl
  have hne:=bw (tl (tr (cy p.data.toList)));refine kW ?_;refine kP [.c [.str p]] ?_ ?_
  ·((repeat' apply aI)<;>first|exact kD|(intro hgd;refine ⟨?_,kG⟩;(repeat' apply aI)<;>first|exact kD|skip)|skip)
   ·exact AU hg
  refine kW ?_;refine kQ [.v (.str (toB (cy p.data.toList))),.v (.str (toB (tr (cy p.data.toList))))] ?_;refine kW ?_;refine kQ [.v (.str (toB (tl (tr (cy p.data.toList)))))] ?_;refine kW ?_;rw [hne];generalize hY:tr (cy p.data.toList)=y at*;cases hT:tl y with
  |nil=>
   rw [hT] at g;simp only at g;refine kC (fun hb=> ?_) fun hb=> ?_
   ·refine kW ?_
    refine AK.exit rfl ?_;refine kW ?_;refine AK.lp ⟨(k+1,r),⟨by dsimp only;omega,?_⟩,wO ⟨kI,⟨_,rfl,.of_eq ?_⟩,kI,kI,kU,trivial⟩ trivial rfl rfl,by dsimp only;omega⟩
    ·dsimp only
     rw [C,dR,j,gn,g];rfl
    ·dsimp only
     rw [C,dR,j,gn,g];simp
   ·simp at hb
  |cons c t=>
   rw [hT] at g hz2;simp only at g;simp only [gA3] at hz2;have hsz:(toB (c::t)).size=t.length+1:=rfl;have hat:(toB (c::t)).data.getD (0:Int).toNat 0=c:=rfl;refine kC (fun hb=> ?_) fun hb=> ?_
   ·simp at hb
   ·refine kW ?_
    refine kP [] ?_ ?_
    ·((repeat' apply aI)<;>first|exact kD|(intro hgd;refine ⟨?_,kG⟩;(repeat' apply aI)<;>first|exact kD|skip)|skip)
     all_goals first|(rw [hsz];omega)|skip
    rw [hat,show (9:Int)=((9:Nat):Int) from rfl,ej c 9 (by omega)];by_cases h9:c=9
    ·subst h9
     have T:bC (ps.map fun x=>x.data.toList)=none:=by
      rw [I,C,dR,dR,j,gn,g];rfl
     refine kC (fun hb=> ?_) fun hb=> ?_
     ·refine kW ?_
      exact aR (h0 T _ _ rfl rfl)
     ·simp at hb
    ·rw [if_neg h9] at g
     have hw:IntKind.i64.wrap (((toB y).size:Int)-((toB (c::t)).size:Int))=((y.length-(c::t).length:Nat):Int):=by
      rw [gA3,ae,hsz,aD (by omega) (by omega)];omega
     refine kC (fun hb=> ?_) fun hb=> ?_
     ·simp [h9] at hb
     ·refine kW ?_
      refine kP [] ?_ ?_
      ·((repeat' apply aI)<;>first|exact kD|(intro hgd;refine ⟨?_,kG⟩;(repeat' apply aI)<;>first|exact kD|skip)|skip)
       all_goals simp only [jM,List.length_nil,gA3,Option.getD_some]
       all_goals omega
      refine kW ?_;rw [hw];refine AK.lp ⟨(k+1,_),⟨by dsimp only;omega,?_⟩,wO ⟨kI,⟨_,rfl,.of_eq ?_⟩,kI,kI,kU,trivial⟩ trivial rfl rfl,by dsimp only;omega⟩
      ·dsimp only
       rw [C,dR,j,gn,g];rfl
      ·dsimp only
       rw [C,dR,j,gn,g];simp [lw];exact ⟨by simp [pN,pO,cM],rfl,rfl⟩
 ·have R:k=ps.length:=by have:ps.length≤k:=by simpa [dh] using hb
                         omega
  subst R;rw [List.take_length] at j;refine AK.exit rfl ?_;refine kW ?_;exact aR (h1 acc j _ _ rfl rfl)
theorem Di (s:ByteArray) (g:s.size≤1000000) (h:jL s=none):AC Tryz.prog 46 [.str s] (.tup [.lst .any 2 [],.int .i64 12]):=by
 refine AC.enter Tryz.func46 fm fq (by rfl) fun E p=>nX s g _ (fun _ fr st i j=>⟨_,by show resVals fr st [.tmp 2,.tmp 3]=_;simp only [resVals,bg,qc,i,j,AV.arg];rfl,rfl⟩) fun r hl=>by rw [h] at hl;cases hl
theorem FC (s:ByteArray) (g:s.size≤1000000) (h:jL s=some []):AC Tryz.prog 46 [.str s] (.tup [.lst .any 2 [],.int .i64 0]):=by
 refine AC.enter Tryz.func46 fm fq (by rfl) fun E p=>nX s g _ (fun hl=>by rw [h] at hl;cases hl) fun r hl fr st i j=> ?_
 rw [h] at hl;cases hl;exact ⟨_,by show resVals fr st [.tmp 2,.tmp 3]=_;simp only [resVals,bg,qc,i,j,AV.arg];rfl,rfl⟩
theorem Hz (s:ByteArray) (r:s.size≤1000000) {i:List (Nat×Bs)} (h:jL s=some i) (j:i≠ []):MT Tryz.prog 46 [.str s] 2 (lw i) [.int .i64 0]:=by
 refine MT.enter Tryz.func46 fm fq (by rfl) (by rw [jM];exact List.length_pos_iff.2 j) (by omega) (fun c C x g=> ?_) (by simp) (fun x g=> ?_) fun E R=>nX s r _ (fun hl=>by rw [h] at hl;cases hl) fun I hl fr st J P=> ?_
 ·obtain ⟨p,_,rfl⟩:=List.mem_map.1 C
  rcases gB2 g with rfl|g
  ·rfl
  ·rcases gB2 g with rfl|g
   ·rfl
   ·cases g
 ·rcases gB2 g with rfl|g
  ·rfl
  ·cases g
 ·rw [h] at hl
  cases hl;exact ⟨2,34,[.tmp 3],rfl,J,by simp only [resVals,bg,qc,P,AV.arg];rfl⟩
end
section
set_option maxRecDepth 100000
set_option maxHeartbeats 20000000
def xD:List Nat:= [1000131]
noncomputable def Dj:ACode:=bK Tryz.prog xD Tryz.f128
noncomputable def Dk:AFn:=⟨3,20,Dj,[.cell 6 6 true]⟩
theorem ni:ar Tryz.prog xD Tryz.f128=some Dk:=kk
theorem nj:ab Tryz.prog 128=true:=kk
end
end Go.Proofs.YtbgflifmanjpjaaGreatDoor
