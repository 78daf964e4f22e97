/- Part 39. -/
import Derived.Test.YtbgflifmanjpjaaGreatDoorS38
import Derived.Lib.ItoaNum
set_option linter.unusedSimpArgs false
set_option linter.unusedVariables false
namespace Go.Proofs.YtbgflifmanjpjaaGreatDoor
section
open Go.RowKit
end
section
open Go.RowKit
end
section
open Go.RowKit
theorem H6 {l r:List UInt8} {c:UInt8} (h:c∉l):Lib.indexByte (l++c::r) c=l.length:=by
 induction l with
 |nil=>simp [Lib.indexByte]
 |cons a l ih=>
  simp only [List.mem_cons,not_or] at h;have:=ih h.2;rw [List.cons_append,Lib.indexByte,if_neg (by simpa using Ne.symm h.1),this,if_neg (by simp)];simp
theorem LT {l:List UInt8} {c:UInt8} (h:c∉l):Lib.indexByte l c= -1:=by
 rcases vZ l c with ⟨g,_⟩|⟨i,_,_,j,_⟩
 ·exact g
 ·exact absurd (gA2 j) h
def da (c:UInt8):List Bs→Bs
 | []=> []
 |x::l=>x++l.flatMap fun t=>c::t
theorem kq (c:UInt8) (t u:Bs) (l:List Bs):da c (t::u::l)=t++c::da c (u::l):=by
 rw [da,da,List.flatMap_cons];rfl
theorem zj (c:UInt8): ∀(l:List Bs) (s:ByteArray),l≠ []→(∀t∈l,c∉t)→s.data.toList=da c l→Lib.countB s ⟨#[c]⟩+1=l.length∧(Lib.splitB ⟨#[c]⟩ 0 (l.length-1) s).map (fun x=>x.data.toList)=l
 | [],_,h,_,_=>absurd rfl h
 | [t],s,_,j,g=>by
  have i:s.data.toList=t:=by rw [g];simp [da]
  have hi:Lib.indexB s ⟨#[c]⟩= -1:=by
   show Lib.index s.data.toList [c]= -1;rw [Lib.index_one,LT (by rw [i];exact j t (by simp))]
  exact ⟨by rw [Lib.countB_miss _ _ hi];rfl,by show [s.data.toList]=_;rw [i]⟩
 |t::u::l,s,_,j,g=>by
  rw [kq] at g;have ht:=j t (by simp)
  have hi:Lib.indexB s ⟨#[c]⟩=(t.length:Nat):=by
   show Lib.index s.data.toList [c]=_;rw [Lib.index_one,g,H6 ht]
  have p:(s.extract (t.length+(ByteArray.mk #[c]).size) s.size).data.toList=da c (u::l):=by
   rw [Aj];show s.data.toList.drop (t.length+1)=_;have e:t++c::da c (u::l)=(t++ [c])++da c (u::l):=by simp
   rw [g,e,List.drop_append_of_le_length (by simp),List.drop_of_length_le (by simp)];rfl
  have r:(s.extract 0 (t.length+0)).data.toList=t:=by
   rw [Lib.extract_eq];show ((s.data.toList.drop 0).take _)=_;rw [g];simp
  obtain ⟨C,c2⟩:=zj c (u::l) (s.extract (t.length+(ByteArray.mk #[c]).size) s.size) (by simp) (fun x p=>j x (by simp [gB2 p])) p;refine ⟨?_,?_⟩
  ·rw [Lib.countB_hit _ _ _ (show 1≤(ByteArray.mk #[c]).size from gA4 1) hi]
   simp only [gA3] at C⊢;omega
  ·simp only [gA3,Nat.add_sub_cancel] at c2⊢
   rw [Lib.splitB_hit _ _ _ _ _ hi,List.map_cons,r,c2]
theorem H7 {c:UInt8} {l:List Bs} {s:ByteArray} (g:l≠ []) (i: ∀t∈l,c∉t) (j:s.data.toList=da c l):(cj c s).map (fun x=>x.data.toList)=l:=by
 obtain ⟨p,c2⟩:=zj c l s g i j;rw [cj,show Lib.countB s ⟨#[c]⟩=l.length-1 by omega,c2]
end
section
open Go.RowKit
end
section
set_option maxRecDepth 100000
set_option maxHeartbeats 20000000
def zk:List Nat:= []
noncomputable def De:ACode:=bK Tryz.prog zk Tryz.f22
noncomputable def Df:AFn:=⟨2,29,De,[.cell 4 6 true,.tmp 5]⟩
theorem wU:aq Tryz.prog zk Tryz.f22=some Df:=kk
theorem wV:ab Tryz.prog 22=true:=kk
end
section
open Go.RowKit
theorem Kj (v:V) (key:ByteArray) (hsz:v.size≤2000000000000):AC Tryz.prog 22 [(vA (v)),.str key] (NG (aU key v.m)):=by
 have C:=v.size_eq;have I:=aZ v.m;refine kE Tryz.func22 wU wV fun E J=> ?_
 refine kW ?_;refine aJ (fun k:Nat=>(ar [(1,.str key),(2,.ptr 2 0),(4,.ptr 4 0),(6,.int .i64 k)],⟨ag [(2,(vC (v)),false),(4,[.int .i64 0,.bool false,.int .i64 0,.str ⟨#[]⟩,.lst .nil 6 [],.lst .nil 7 []],false)],fun _=>0⟩)) (fun k=>k≤v.m.length∧ ∀j p,j<k→v.m[j]? =some p→p.1≠key) (fun k=>v.m.length-k) 0 ⟨by omega,fun j p h=>by omega⟩ (wO ⟨kI,kI,kI,kI,trivial⟩ ⟨kJ,kJ,trivial⟩ rfl rfl) fun k ⟨P,hr⟩=> ?_
 refine kW ?_;refine kC (fun hb=> ?_) fun hb=> ?_
 ·have g:k<v.m.length:=by simpa [ak] using hb
  obtain ⟨⟨y,x⟩,hg⟩: ∃x,v.m[k]? =some x:=⟨_,gA1 g⟩
  refine kW ?_;refine kP [.c (.str y::(vC (x)))] ?_ ?_
  ·((repeat' apply aI)<;>first|exact kD|(intro i;refine ⟨?_,kG⟩;(repeat' apply aI)<;>first|exact kD|skip)|skip)
   ·exact aV hg
  refine kC (fun hb=> ?_) fun hb=> ?_
  ·have r:y=key:=by simpa using hb
   subst r;refine kW ?_;refine kP [.c (.str y::(vC (x)))] ?_ ?_
   ·((repeat' apply aI)<;>first|exact kD|(intro i;refine ⟨?_,kG⟩;(repeat' apply aI)<;>first|exact kD|skip)|skip)
    ·exact aV hg
   refine kW ?_;refine aR ⟨_,rfl,?_⟩;rw [BK hr hg];rfl
  ·have r:y≠key:=by simpa using hb
   refine kW ?_;exact AK.lp ⟨k+1,⟨by omega,Lb hr hg r⟩,wO ⟨kI,kI,kI,kU,trivial⟩ ⟨kJ,kJ,trivial⟩ rfl rfl,by omega⟩
 ·have g:k=v.m.length:=by have:v.m.length≤k:=by simpa [ak] using hb
                          omega
  subst g;refine AK.exit rfl ?_;refine kW ?_;refine aR ⟨_,rfl,?_⟩;rw [vE hr];rfl
end
section
set_option maxRecDepth 100000
set_option maxHeartbeats 20000000
def mM:List Nat:= [2000040,2000041,2000043,2000010,2000026,2000083,2000011]
noncomputable def ek:ACode:=bK Tryz.prog mM Tryz.f40
noncomputable def oY:AFn:=⟨2,68,ek,[.tmp 4]⟩
theorem lq:aq Tryz.prog mM Tryz.f40=some oY:=kk
theorem lr:ab Tryz.prog 40=true:=kk
noncomputable def eO:ACode:=bK Tryz.prog mM Tryz.f41
noncomputable def p9:AFn:=⟨2,28,eO,[.tmp 4]⟩
theorem l7:aq Tryz.prog mM Tryz.f41=some p9:=kk
theorem l8:ab Tryz.prog 41=true:=kk
noncomputable def kr:ACode:=bK Tryz.prog mM Tryz.f11
noncomputable def AT:AFn:=⟨3,37,kr,[.cell 6 6 true]⟩
theorem t8:aq Tryz.prog mM Tryz.f11=some AT:=kk
theorem ua:ab Tryz.prog 11=true:=kk
end
section
open Go.RowKit
theorem iw:V.null.checkC=0:=by decide+kernel
theorem Kk (s:ByteArray):((aY s).2=0∧(aY s).1.checkC=0)∨((aY s).2≠0∧(aY s).1=V.null):=by
 unfold aY Eu;split
 ·exact .inr ⟨by decide,rfl⟩
 split
 ·exact .inr ⟨by decide,rfl⟩
 split
 ·exact .inl ⟨rfl,iw⟩
 dsimp only;split
 ·rename_i h;exact .inr ⟨h,rfl⟩
 split
 ·exact .inr ⟨by decide,rfl⟩
 split
 ·rename_i h;exact .inr ⟨h,rfl⟩
 ·rename_i h;exact .inl ⟨rfl,by simpa using h⟩
theorem oZ (s:ByteArray):(aY s).1.good∧(aY s).1.size≤4096:=by
 rcases Kk s with ⟨_,h⟩|⟨_,h⟩
 ·exact ⟨(V.check_good h).1,(V.check_good h).2.1⟩
 ·rw [h];exact ⟨(V.check_good iw).1,(V.check_good iw).2.1⟩
theorem qa {v:V} (h:v.good) {p:ByteArray×V} (i:p∈v.m):p.1.size≤256∧p.2.good:=by
 have g:=(yK v.m).1 ((V.good_eq v).1 h).2.2.2.1 p i;have:=g.1;simp only [qJ,gA9,gB0] at this;exact ⟨this.2.2,g.2⟩
theorem rP {s:ByteArray} (h:dE s=true):s.size≤65536:=by
 simp only [dE,gA9,gB0] at h;exact h.2
theorem Gk: ∀(n:Nat) (v:V),v.size≤n→n≤1000000→v.good→v.sb:=by
 intro n
 induction n with
 |zero=>intro v h;have:=v.size_pos;omega
 |succ n ih=>
  intro v h hn hg;have j:=v.size_eq;have C:=aZ v.m;have I:=br v.l;have r:=(V.good_eq v).1 hg;have ht:=rP r.2.1;refine (V.sb_eq v).2 ⟨by omega,⟨by omega,by omega⟩,(jV _).2 fun x i=> ?_,(jW _).2 fun p g=> ?_⟩
  ·have:=yN i
   exact ih x (by omega) (by omega) (MX hg i)
  ·have:=fa g
   have J:=(qa hg g).1;exact ⟨by omega,ih p.2 (by omega) (by omega) (qa hg g).2⟩
def kNm:ByteArray:=⟨#[110,97,109,101]⟩
def Dg:ByteArray:=⟨#[118,101,114,115,105,111,110]⟩
def mvK (key:ByteArray) (v:V):V:=(aU key v.m).getD V.null
def Gl (v:V):Bool:= !decide ((mvK kNm v).kind=3)|| !decide ((mvK Dg v).kind=3)|| !dF (mvK kNm v).s||decide ((mvK Dg v).s=⟨#[]⟩)||decide (256<(mvK kNm v).s.size+(mvK Dg v).s.size)
def gU (nm ver s:ByteArray):ByteArray×ByteArray×Int:=if (aY s).2≠0 then (nm,ver,(aY s).2) else if Gl (aY s).1=true then (nm,ver,25) else ((mvK kNm (aY s).1).s,(mvK Dg (aY s).1).s,0)
def wW (v0:V) (s:ByteArray):V×Int:=if (aY s).2≠0 then (v0,(aY s).2) else if (aY s).1.kind=0 then (v0,0) else if (aY s).1.kind≠5 then (v0,8) else ((aY s).1,0)
theorem Dh {v:V} (h:v.good) (j:v.size≤4096) (key:ByteArray):(mvK key v).s.size≤65536:=by
 unfold mvK;cases g:aU key v.m with
 |none=>show (V.null).s.size≤_;decide
 |some x=>
  have i:=Cf g;exact rP ((V.good_eq _).1 (qa h i).2).2.1
end
section
set_option maxRecDepth 100000
set_option maxHeartbeats 20000000
def AU:List Nat:= []
noncomputable def jw:ACode:=bK Tryz.prog AU Tryz.f56
noncomputable def jx:AFn:=⟨2,8,jw,[.tmp 4]⟩
theorem gV:aq Tryz.prog AU Tryz.f56=some jx:=kk
theorem gW:ab Tryz.prog 56=true:=kk
noncomputable def fH:ACode:=bK Tryz.prog AU Tryz.f103
noncomputable def fI:AFn:=⟨2,19,fH,[.tmp 4]⟩
theorem eP:aq Tryz.prog AU Tryz.f103=some fI:=kk
theorem eQ:ab Tryz.prog 103=true:=kk
end
section
set_option maxRecDepth 100000
set_option maxHeartbeats 20000000
def bv:List Nat:= [2000216,2000213,2000158,2000290,2000289,2000264,2000245,2000215,2000059,2000112,2000058,2000159,2000110,2000105]
noncomputable def wX:ACode:=bK Tryz.prog bv Tryz.f210
noncomputable def wY:AFn:=⟨1,21,wX,[.tmp 2]⟩
theorem qb:aq Tryz.prog bv Tryz.f210=some wY:=kk
theorem qc:ab Tryz.prog 210=true:=kk
noncomputable def AW:ACode:=bK Tryz.prog bv Tryz.f209
noncomputable def AX:AFn:=⟨1,13,AW,[.tmp 2]⟩
theorem ub:aq Tryz.prog bv Tryz.f209=some AX:=kk
theorem uc:ab Tryz.prog 209=true:=kk
noncomputable def AY:ACode:=bK Tryz.prog bv Tryz.f211
noncomputable def AZ:AFn:=⟨1,33,AY,[.tmp 2]⟩
theorem ud:aq Tryz.prog bv Tryz.f211=some AZ:=kk
theorem ue:ab Tryz.prog 211=true:=kk
noncomputable def dN:ACode:=bK Tryz.prog bv Tryz.f216
noncomputable def nr:AFn:=⟨2,18,dN,[.cell 4 10 true]⟩
theorem ku:aq Tryz.prog bv Tryz.f216=some nr:=kk
theorem kw:ab Tryz.prog 216=true:=kk
noncomputable def dO:ACode:=bK Tryz.prog bv Tryz.f213
noncomputable def ns:AFn:=⟨1,10,dO,[]⟩
theorem kx:aq Tryz.prog bv Tryz.f213=some ns:=kk
theorem kz:ab Tryz.prog 213=true:=kk
noncomputable def dP:ACode:=bK Tryz.prog bv Tryz.f158
noncomputable def nu:AFn:=⟨1,52,dP,[.tmp 2]⟩
theorem kF:aq Tryz.prog bv Tryz.f158=some nu:=kk
theorem kH:ab Tryz.prog 158=true:=kk
noncomputable def dt:ACode:=bK Tryz.prog bv Tryz.f290
noncomputable def l9:AFn:=⟨1,40,dt,[.tmp 2]⟩
theorem jy:aq Tryz.prog bv Tryz.f290=some l9:=kk
theorem jz:ab Tryz.prog 290=true:=kk
noncomputable def c7:ACode:=bK Tryz.prog bv Tryz.f289
noncomputable def lu:AFn:=⟨1,66,c7,[.cell 2 10 true]⟩
theorem iM:aq Tryz.prog bv Tryz.f289=some lu:=kk
theorem iN:ab Tryz.prog 289=true:=kk
noncomputable def rQ:ACode:=bK Tryz.prog bv Tryz.f160
noncomputable def rR:AFn:=⟨1,30,rQ,[.tmp 2,.tmp 3,.tmp 4]⟩
theorem nz:aq Tryz.prog bv Tryz.f160=some rR:=kk
theorem nA:ab Tryz.prog 160=true:=kk
noncomputable def Di:ACode:=bK Tryz.prog bv Tryz.f111
noncomputable def Dj:AFn:=⟨1,20,Di,[.tmp 2,.tmp 3,.tmp 4]⟩
theorem wZ:aq Tryz.prog bv Tryz.f111=some Dj:=kk
theorem w4:ab Tryz.prog 111=true:=kk
noncomputable def A0:ACode:=bK Tryz.prog bv Tryz.f109
noncomputable def A3:AFn:=⟨1,16,A0,[.tmp 2,.tmp 3]⟩
theorem uf:aq Tryz.prog bv Tryz.f109=some A3:=kk
theorem ug:ab Tryz.prog 109=true:=kk
noncomputable def w8:ACode:=bK Tryz.prog bv Tryz.f212
noncomputable def xa:AFn:=⟨1,18,w8,[.tmp 2]⟩
theorem qd:aq Tryz.prog bv Tryz.f212=some xa:=kk
theorem qe:ab Tryz.prog 212=true:=kk
end
section
open Go.RowKit
theorem gj (s:Bs):(nmL s).length≤s.length:=by
 unfold nmL;split
 ·exact gA4 _
 ·split
  ·have:=(List.takeWhile_sublist (p:=nf) (l:= ‹Bs›)).length_le
   simp only [gA3];omega
  ·exact gB8 _
theorem iy {s:Bs} (h:nmL s≠ []):0<(nmL s).length:=by
 cases g:nmL s with
 |nil=>exact absurd g h
 |cons c t=>simp
theorem A4 {c:UInt8} {t:Bs} (h:hZ c=true):nmL (c::t)≠ []:=by
 unfold nmL;dsimp only;rw [if_pos h];simp
theorem o4: ∀(n:Nat) (s:Bs),(bi n s).2.length≤s.length∧((bi n s).1≠ []→(bi n s).2.length+2≤s.length)
 |0,s=>⟨gA4 _,fun h=>absurd rfl h⟩
 |n+1,[]=>⟨gA4 _,fun h=>absurd rfl h⟩
 |n+1,[d]=>⟨gA4 _,fun h=>absurd rfl h⟩
 |n+1,d::c::t=>by
  unfold bi;dsimp only;split
  ·rename_i h
   have g:=(o4 n ((c::t).drop (nmL (c::t)).length)).1;have i:=iy (A4 (t:=t) h.2);rw [gA6] at g;simp only [gA3] at g⊢;exact ⟨by omega,fun _=>by omega⟩
  ·exact ⟨gA4 _,fun h=>absurd rfl h⟩
theorem Dk (s:Bs):1≤ia s:=by
 unfold ia;split<;>omega
theorem LU {c:UInt8} {t:Bs}:ia (c::t)≤(c::t).length:=by
 have:=(List.takeWhile_sublist (p:=ya) (l:=t)).length_le;simp only [ia,gA3];omega
def PM.base:PM→Nat
 | .args _ out=>out.length
 | .bars x=>x.args.length
 |_=>0
theorem Dl (r:RD) {c:UInt8} {t:Bs} (h:r.s=c::t):(rE r).1.args.length=0∧(rE r).2.s.length<r.s.length:=by
 have i:=Dk r.s;have g:0<r.s.length:=by rw [h];simp
 unfold rE;generalize bw (toB (r.s.take (ia r.s)))=q;obtain ⟨v,e⟩:=q;dsimp only;split
 ·exact ⟨rfl,g⟩
 ·refine ⟨rfl,?_⟩
  show (r.s.drop (ia r.s)).length<_;rw [gA6];omega
theorem bN: ∀(n:Nat) (m:PM) (r:RD),(exF n m r).1.args.length+(exF n m r).2.2.s.length≤m.base+r.s.length∧(m= .operand→(exF n m r).2.1=true→(exF n m r).2.2.s.length<r.s.length)
 |0,m,r=>⟨by show 0+r.s.length≤_;omega,fun _ h=>by cases h⟩
 |n+1,.operand,r=>by
  have hl:=cL r.s;unfold exF;cases T:tlw r.s with
  |nil=>exact ⟨by show 0+(tlw r.s).length≤0+_;omega,fun _ h=>by cases h⟩
  |cons c t=>
   have J:=hl;rw [T,gA3] at J;have i: ∀(x:EX) (g:RD) (b:Bool),x.args.length=0→g.s.length<r.s.length→x.args.length+g.s.length≤PM.base .operand+r.s.length∧(PM.operand= .operand→b=true→g.s.length<r.s.length):=fun x g b C j=>⟨by show _≤0+_;omega,fun _ _=>j⟩
   have I: ∀g:RD,g.s.length≤r.s.length→EX.null.args.length+g.s.length≤PM.base .operand+r.s.length∧(PM.operand= .operand→false=true→g.s.length<r.s.length):=fun g h=>⟨by show 0+_≤0+_;omega,fun _ h=>by cases h⟩
   dsimp only;split
   ·cases hu:lU (c::t) with
    |none=>exact i EX.null (r.fail 11) true rfl (by show 0<_;omega)
    |some p=>
     obtain ⟨x,rest⟩:=p;have C:=ir hu;rw [gA3] at C;exact i (.mk 0 (V.str (toB x)) ⟨#[]⟩ [] []) (r.to rest) true rfl (by show rest.length<_;omega)
   ·split
    ·have C:=Dl r.skip (c:=c) (t:=t) T
     have j:r.skip.s.length≤r.s.length:=hl;exact i (rE r.skip).1 (rE r.skip).2 true C.1 (by omega)
    ·split
     ·have C:=o4 (c::t).length (c::t)
      simp only [gA3] at C;refine i _ (r.to _) true rfl ?_;show (if _ then t else _).length<_;split
      ·omega
      ·rename_i U
       have:=C.2 U;show (bi (t.length+1) (c::t)).2.length<_;omega
     ·split
      ·split
       ·exact i _ (r.fail 20) true rfl (by show 0<_;omega)
       ·have C:=(o4 t.length (t.drop (nmL t).length)).1
        rw [gA6] at C;exact i _ (r.to _) true rfl (by show (bi t.length (t.drop (nmL t).length)).2.length<_;omega)
      ·split
       ·split
        ·exact i _ ((⟨c::t,IntKind.i64.wrap (r.deep+1),r.bad⟩:RD).fail 5) true rfl (by show 0<_;omega)
        ·have ih:=(bN n .pipe ⟨t,IntKind.i64.wrap (r.deep+1),r.bad⟩).1
         generalize exF n .pipe ⟨t,IntKind.i64.wrap (r.deep+1),r.bad⟩=q at ih;obtain ⟨x,b,g⟩:=q;have ih:x.args.length+g.s.length≤0+t.length:=ih;have hl1:=cL g.s;dsimp only;cases hs1:tlw g.s with
         |nil=>exact i EX.null (g.fail 20) true rfl (by show 0<_;omega)
         |cons d u=>
          rw [hs1,gA3] at hl1;dsimp only;split
          ·exact ⟨by show x.args.length+u.length≤0+_;omega,fun _ _=>by show u.length<_;omega⟩
          ·exact i EX.null (g.fail 20) true rfl (by show 0<_;omega)
       ·split
        ·rename_i R
         have C:=iy (A4 (t:=t) R);have j:((c::t).drop (nmL (c::t)).length).length<r.s.length:=by rw [gA6,gA3];omega
         split
         ·exact i _ (r.to _) true rfl j
         ·split
          ·exact i EX.null (r.to _) true rfl j
          ·exact I r.skip hl
        ·exact I r.skip hl
 |n+1,.command,r=>by
  unfold exF;have ih:=bN n .operand r;generalize exF n .operand r=q at ih;obtain ⟨x,b,g⟩:=q;obtain ⟨P,i2⟩:=ih;have P:x.args.length+g.s.length≤0+r.s.length:=P;cases b with
  |true=>exact ⟨P,fun h=>by cases h⟩
  |false=>
   dsimp only;split
   ·exact ⟨by show 0+0≤_;omega,fun h=>by cases h⟩
   ·have j:=(bN n (.args (toB (nmL g.s)) []) (g.to (g.s.drop (nmL g.s).length))).1
    have h3:(g.to (g.s.drop (nmL g.s).length)).s.length≤g.s.length:=by show (g.s.drop _).length≤_;rw [gA6];omega
    have h4:PM.base (.args (toB (nmL g.s)) [])=0:=rfl;exact ⟨by show _≤0+_;omega,fun h=>by cases h⟩
 |n+1,.args name out,r=>by
  unfold exF;have ih:=bN n .operand r;generalize exF n .operand r=q at ih;obtain ⟨x,b,g⟩:=q;obtain ⟨P,i2⟩:=ih;have P:x.args.length+g.s.length≤0+r.s.length:=P;have e1: ∀y:EX,PM.base (.args name (out++ [y]))=out.length+1:=fun y=>by show (out++ [y]).length=_;simp
  cases b with
  |true=>
   have i2:g.s.length<r.s.length:=i2 rfl rfl;have j:=(bN n (.args name (out++ [x])) g).1;rw [e1] at j;dsimp only;exact ⟨by show _≤out.length+_;omega,fun h=>by cases h⟩
  |false=>
   dsimp only;split
   ·exact ⟨by show out.length+g.s.length≤out.length+_;omega,fun h=>by cases h⟩
   ·rename_i hn
    have C:=iy hn;have h0:=gj g.s;have j:=(bN n (.args name (out++ [.mk 3 V.null (toB (nmL g.s)) [] []])) (g.to (g.s.drop (nmL g.s).length))).1;rw [e1] at j;have h3:(g.to (g.s.drop (nmL g.s).length)).s.length+1≤g.s.length:=by show (g.s.drop _).length+1≤_;rw [gA6];omega
    exact ⟨by show _≤out.length+_;omega,fun h=>by cases h⟩
 |n+1,.pipe,r=>by
  unfold exF;have ih:=(bN n .command r).1;generalize exF n .command r=q at ih;obtain ⟨x,b,g⟩:=q;have ih:x.args.length+g.s.length≤0+r.s.length:=ih;have j:=(bN n (.bars x) g).1;have h3:PM.base (.bars x)=x.args.length:=rfl;exact ⟨by show _≤0+_;dsimp only;omega,fun h=>by cases h⟩
 |n+1,.bars x,r=>by
  have hl:=cL r.s;unfold exF;cases T:tlw r.s with
  |nil=>exact ⟨by show x.args.length+(tlw r.s).length≤x.args.length+_;omega,fun h=>by cases h⟩
  |cons c t=>
   have J:=hl;rw [T,gA3] at J;dsimp only;split
   ·have ih:=(bN n .command (r.to t)).1
    generalize exF n .command (r.to t)=q at ih;obtain ⟨y,b,g⟩:=q;have ih:y.args.length+g.s.length≤0+t.length:=ih;dsimp only;split
    ·exact ⟨by show 0+0≤_;omega,fun h=>by cases h⟩
    ·have j:=(bN n (.bars (.mk y.kind y.v y.name y.steps (y.args++ [x]))) g).1
     have h3:PM.base (.bars (.mk y.kind y.v y.name y.steps (y.args++ [x])))=y.args.length+1:=by show (y.args++ [x]).length=_;simp
     exact ⟨by show _≤x.args.length+_;omega,fun h=>by cases h⟩
   ·exact ⟨by show x.args.length+(tlw r.s).length≤x.args.length+_;omega,fun h=>by cases h⟩
theorem MK.pipe_at (m:MK) (s:Bs):(m.pipe s).2.l=m.l∧m.at_≤m.l.length→(m.pipe s).2.l=m.l∧m.at_≤(m.pipe s).2.at_∧(m.pipe s).2.at_≤m.l.length:=by
 intro ⟨i,g⟩;refine ⟨i,?_⟩;unfold MK.pipe;generalize tQ s=q;obtain ⟨x,e⟩:=q;dsimp only;split
 ·exact ⟨g,gA4 _⟩
 ·exact ⟨gA4 _,g⟩
theorem MK.pipe_l (m:MK) (s:Bs):(m.pipe s).2.l=m.l:=by
 unfold MK.pipe;generalize tQ s=q;obtain ⟨x,e⟩:=q;dsimp only;split<;>rfl
theorem Dm (m:MK) (w s:Bs) (g:m.at_≤m.l.length):(eY m w s).2.l=m.l∧m.at_≤(eY m w s).2.at_∧(eY m w s).2.at_≤m.l.length:=by
 have i:=fun s=>m.pipe_at s ⟨m.pipe_l s,g⟩
 unfold eY;split
 ·exact i s
 ·split
  ·exact i s
  ·split
   ·generalize tQ s=q
    obtain ⟨x,e⟩:=q;dsimp only;split
    ·exact ⟨rfl,g,gA4 _⟩
    ·exact ⟨rfl,gA4 _,g⟩
   ·exact i _
theorem eR: ∀(n:Nat) (k:NM) (m:MK),m.at_≤m.l.length→(ndF n k m).2.2.2.l=m.l∧m.at_≤(ndF n k m).2.2.2.at_∧(ndF n k m).2.2.2.at_≤m.l.length∧(∀out,k= .nodes out→(ndF n k m).1.length+m.at_≤out.length+(ndF n k m).2.2.2.at_∧((ndF n k m).2.1≠ []→m.at_+1≤(ndF n k m).2.2.2.at_))∧(∀w s,k= .block w s→0<n→(ndF n k m).1.length=1)
 |0,k,m,h=>⟨rfl,gA4 _,h,fun out hk=>⟨by show 0+m.at_≤out.length+m.at_;omega,fun h=>absurd rfl h⟩,fun w s _ h=>by cases h⟩
 |n+1,.nodes out,m,h=>by
  unfold ndF;cases hx:m.l[m.at_]? with
  |none=>exact ⟨rfl,gA4 _,h,fun o e=>by cases e;exact ⟨gA4 _,fun h=>absurd rfl h⟩,fun w s e=>by cases e⟩
  |some t=>
   have hl:=(gA0 hx).1;dsimp only
   have on: ∀(x:ND) (g:MK),g.l=m.l→m.at_+1≤g.at_→g.at_≤m.l.length→(ndF n (.nodes (out++ [x])) g).2.2.2.l=m.l∧m.at_≤(ndF n (.nodes (out++ [x])) g).2.2.2.at_∧(ndF n (.nodes (out++ [x])) g).2.2.2.at_≤m.l.length∧(∀o,NM.nodes out= .nodes o→(ndF n (.nodes (out++ [x])) g).1.length+m.at_≤o.length+(ndF n (.nodes (out++ [x])) g).2.2.2.at_∧((ndF n (.nodes (out++ [x])) g).2.1≠ []→m.at_+1≤(ndF n (.nodes (out++ [x])) g).2.2.2.at_))∧(∀w s,NM.nodes out= .block w s→0<n+1→(ndF n (.nodes (out++ [x])) g).1.length=1):=fun x g J e2 T=>by
    obtain ⟨p,i2,i3,i4,_⟩:=eR n (.nodes (out++ [x])) g (by rw [J];exact T);have i4:=(i4 _ rfl).1;rw [J] at p i3;rw [gA5,List.length_singleton] at i4;exact ⟨p,by omega,i3,fun o e=>by cases e;exact ⟨by omega,fun _=>by omega⟩,fun w s e=>by cases e⟩
   split
   ·exact on _ ⟨m.l,m.at_+1,m.deep,m.bad⟩ rfl (gA4 _) hl
   ·split
    ·exact ⟨rfl,Nat.le_succ _,hl,fun o e=>by cases e;exact ⟨by show out.length+m.at_≤out.length+(m.at_+1);omega,fun _=>gA4 _⟩,fun w s e=>by cases e⟩
    ·split
     ·obtain ⟨i,C,j,_,U⟩:=eR n (.block (nmL t.s) (ck t.s)) ⟨m.l,m.at_+1,m.deep,m.bad⟩ hl
      generalize ndF n (.block (nmL t.s) (ck t.s)) ⟨m.l,m.at_+1,m.deep,m.bad⟩=q at i C j U;obtain ⟨b,st,re,g⟩:=q;dsimp only at i C j U⊢;cases n with
      |zero=>exact ⟨i,by show m.at_≤g.at_;omega,j,fun o e=>by cases e;exact ⟨by show 0+m.at_≤out.length+g.at_;omega,fun h=>absurd rfl h⟩,fun w s e=>by cases e⟩
      |succ n=>
       have hb:=U _ _ rfl (Nat.succ_pos _);obtain ⟨x,rfl⟩:=List.length_eq_one_iff.1 hb;exact on x g i C j
     ·generalize iJ t.s=q
      obtain ⟨name,rest,b⟩:=q;have P:=fun s=>(⟨m.l,m.at_+1,m.deep,m.bad⟩:MK).pipe_at s ⟨MK.pipe_l _ s,hl⟩
      cases b with
      |true=>exact on _ _ (P rest).1 (P rest).2.1 (P rest).2.2
      |false=>exact on _ _ (P t.s).1 (P t.s).2.1 (P t.s).2.2
 |n+1,.block w s,m,h=>by
  unfold ndF;dsimp only;split
  ·exact ⟨rfl,h,gA4 _,fun o e=>(by cases e),fun _ _ _ _=>rfl⟩
  ·obtain ⟨R,h2,h3⟩:=Dm ⟨m.l,m.at_,IntKind.i64.wrap (m.deep+1),m.bad⟩ w s h
   generalize eY ⟨m.l,m.at_,IntKind.i64.wrap (m.deep+1),m.bad⟩ w s=hd at R h2 h3;obtain ⟨hn,hm⟩:=hd;dsimp only at R h2 h3⊢;obtain ⟨p,i2,i3,i4,_⟩:=eR n (.nodes []) hm (by rw [R];exact h3);rw [R] at p i3;generalize ndF n (.nodes []) hm=q at p i2 i3 i4;obtain ⟨body,stop,rest,g⟩:=q;dsimp only at p i2 i3⊢
   have close: ∀(r:MK) (c:Prop) [Decidable c] (x:ND),r.l=m.l→m.at_≤r.at_→r.at_≤m.l.length→ ∀I:MK,I=(if c then r.fail 21 else r)→((⟨I.l,I.at_,IntKind.i64.wrap (I.deep-1),I.bad⟩:MK).l=m.l∧m.at_≤I.at_∧I.at_≤m.l.length):=fun r c _ x J e2 T I e=>by
    subst e;split
    ·exact ⟨J,by show m.at_≤r.l.length;rw [J];exact h,by show r.l.length≤_;rw [J];exact gA4 _⟩
    ·exact ⟨J,e2,T⟩
   split
   ·obtain ⟨i,C,j,_,_⟩:=eR n (.block wIf (ck (tlw rest))) g (by rw [p];exact i3)
    rw [p] at i j;generalize ndF n (.block wIf (ck (tlw rest))) g=q at i C j;obtain ⟨b,st,re,r⟩:=q;dsimp only at i C j⊢;exact ⟨i,by omega,j,fun o e=>(by cases e),fun _ _ _ _=>rfl⟩
   ·split
    ·obtain ⟨i,C,j,_,_⟩:=eR n (.nodes []) g (by rw [p];exact i3)
     rw [p] at i j;generalize ndF n (.nodes []) g=q at i C j;obtain ⟨els,st,re,r⟩:=q;dsimp only at i C j⊢;obtain ⟨k1,k2,k3⟩:=close r (st≠rF∨tlw re≠ []) ND.null i (by omega) j _ rfl;exact ⟨k1,k2,k3,fun o e=>(by cases e),fun _ _ _ _=>rfl⟩
    ·obtain ⟨k1,k2,k3⟩:=close g (stop≠rF∨tlw rest≠ []) ND.null p (by omega) i3 _ rfl
     exact ⟨k1,k2,k3,fun o e=>(by cases e),fun _ _ _ _=>rfl⟩
end
section
set_option maxRecDepth 100000
set_option maxHeartbeats 20000000
def Gm:List Nat:= [2000216,2000213,2000158,2000290,2000289,2000264,2000245,2000215,2000059,2000112,2000058,2000159,2000110,2000105]
noncomputable def ym:ACode:=bK Tryz.prog Gm Tryz.f106
noncomputable def yn:AFn:=⟨2,44,ym,[.tmp 4]⟩
theorem rS:aq Tryz.prog Gm Tryz.f106=some yn:=kk
theorem rT:ab Tryz.prog 106=true:=kk
end
end Go.Proofs.YtbgflifmanjpjaaGreatDoor
