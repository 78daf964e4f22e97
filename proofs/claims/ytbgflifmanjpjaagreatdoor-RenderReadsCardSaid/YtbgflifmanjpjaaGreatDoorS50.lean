/- Part 50. -/
import Derived.Test.YtbgflifmanjpjaaGreatDoorS49
import Derived.Shelf.Small.Wraps
import Derived.Shelf.Slices.Turned
import Derived.Ground.SlgnProg
import Derived.Shelf.SlicesG.SearchI
set_option linter.unusedSimpArgs false
set_option linter.unusedVariables false
namespace Go.Proofs
open Go.Shelf
def Tryz.lays156_ren:Go.Shelf.Ren:=⟨fun|156=>115|165=>173|166=>174|169=>62|240=>228|241=>229|276=>255|277=>256|n=>n,fun|31=>37|9=>9|3=>3|4=>4|0=>0|20=>20|72=>120|76=>217|70=>117|37=>118|75=>216|127=>169|164=>278|5=>5|80=>127|n=>n,fun|n=>n⟩
theorem Tryz.lays156:Go.Proofs.Lays.n156 Tryz.prog Tryz.lays156_ren:={
 mixed:=by kernel_rfl
 f156:=Tryz.func115.trans (congrArg some (by kernel_rfl))
 f165:=Tryz.func173.trans (congrArg some (by kernel_rfl))
 f166:=Tryz.func174.trans (congrArg some (by kernel_rfl))
 f169:=Tryz.func62.trans (congrArg some (by kernel_rfl))
 f240:=Tryz.func228.trans (congrArg some (by kernel_rfl))
 f241:=Tryz.func229.trans (congrArg some (by kernel_rfl))
 f276:=Tryz.func255.trans (congrArg some (by kernel_rfl))
 f277:=Tryz.func256.trans (congrArg some (by kernel_rfl))
 t0:=Tryz.underlying0
 a0:=Tryz.isAgg0
 z0:=Tryz.sizeOf0
 v0:=Tryz.zeroValue0
 t3:=Tryz.underlying3
 a3:=Tryz.isAgg3
 z3:=Tryz.sizeOf3
 v3:=Tryz.zeroValue3
 t4:=Tryz.underlying4
 a4:=Tryz.isAgg4
 z4:=Tryz.sizeOf4
 v4:=Tryz.zeroValue4
 t9:=Tryz.underlying9
 a9:=Tryz.isAgg9
 z9:=Tryz.sizeOf9
 v9:=Tryz.zeroValue9
 t20:=Tryz.underlying20
 a20:=Tryz.isAgg20
 z20:=Tryz.sizeOf20
 v20:=Tryz.zeroValue20
 t31:=Tryz.underlying37
 a31:=Tryz.isAgg37
 z31:=Tryz.sizeOf37
 v31:=Tryz.zeroValue37
 t37:=Tryz.underlying118
 a37:=Tryz.isAgg118
 z37:=Tryz.sizeOf118
 v37:=Tryz.zeroValue118
 t70:=Tryz.underlying117
 a70:=Tryz.isAgg117
 z70:=Tryz.sizeOf117
 v70:=Tryz.zeroValue117
 t72:=Tryz.underlying120
 a72:=Tryz.isAgg120
 z72:=Tryz.sizeOf120
 v72:=Tryz.zeroValue120
 t75:=Tryz.underlying216
 a75:=Tryz.isAgg216
 z75:=Tryz.sizeOf216
 v75:=Tryz.zeroValue216
 t76:=Tryz.underlying217
 a76:=Tryz.isAgg217
 z76:=Tryz.sizeOf217
 v76:=Tryz.zeroValue217
 t127:=Tryz.underlying169
 a127:=Tryz.isAgg169
 z127:=Tryz.sizeOf169
 v127:=Tryz.zeroValue169
 t164:=Tryz.underlying278
 a164:=Tryz.isAgg278
 z164:=Tryz.sizeOf278
 v164:=Tryz.zeroValue278}
theorem Tryz.Builder_Extra_156:Builder.Extra Tryz.prog Tryz.lays156_ren:={
 sizeBuilder:=by kernel_rfl
 liesBuilder:=by kernel_rfl
 t5:=Tryz.underlying5
 a5:=Tryz.isAgg5
 z5:=Tryz.sizeOf5
 v5:=Tryz.zeroValue5
 infoByte:=by kernel_rfl
 cellsByte:=by kernel_rfl
 sizeByte:=by kernel_rfl
 neB5:=by decide}
open Go.RowKit in
theorem Tryz.strings_Join_none (a:Option Addr) (c:Nat) (sep:ByteArray) (w:World):
  Calls Tryz.prog 115 #[.slice a 0 c,.string sep] w fun e w' =>e= .returned (.string ⟨#[]⟩)∧w' =w:=Any.strings_Join_none Tryz.lays156 Tryz.Builder_Extra_156 a c sep w
open Go.RowKit in
theorem Tryz.strings_Join (p o c:Nat) (xs:List ByteArray) (sep:ByteArray) (w:World) (g: ∀(j:Nat) x,xs[j]? =some x→w.cell? ⟨p,o+j,none⟩=some (.string x)) (r:p<w.heap.size) (C:xs.length≤140737488355328) (i:xs.length≤c) (hlen:(Lib.join (xs.map (·.data.toList)) sep.data.toList).length≤140737488355328):
  Calls Tryz.prog 115 #[.slice (some ⟨p,o,none⟩) xs.length c,.string sep] w fun e w' =>e= .returned (.string ⟨(Lib.join (xs.map (·.data.toList)) sep.data.toList).toArray⟩)∧Below w.heap.size w w' :=Any.strings_Join Tryz.lays156 Tryz.Builder_Extra_156 p o c xs sep w g r C i hlen
end Go.Proofs
namespace Go.Proofs.YtbgflifmanjpjaaGreatDoor
open Go.RowKit
theorem FC (l:List ByteArray):(aRz l).flatten=l.map AV.str:=by
 induction l with
 |nil=>rfl
 |cons s l ih=>rw [aRz,List.map_cons,List.flatten_cons];show [AV.str s]++(aRz l).flatten=_;rw [ih];rfl
theorem L7 (g:List Bs) (hN:g.length≤1000000000) (hlen:(da 10 g).length≤140737488355328):
  AC Tryz.prog 115 [.lst .any 1 (aRz (g.map toB)),.str ⟨#[10]⟩] (.str (toB (da 10 g))):=by
 refine ⟨by kernel_rfl,fun σ w vs P hr hg=> ?_⟩;have hl:vs.length=2:=hr.1
 obtain ⟨v1,v2,rfl⟩: ∃a b,vs= [a,b]:=by
  rcases vs with _|⟨a,_|⟨b,_|⟨d,l⟩⟩⟩<;>simp at hl
  exact ⟨a,b,rfl⟩
 have h1:Rel1 σ v1 (.lst .any 1 (aRz (g.map toB))):=hr.2 0 v1 _ rfl rfl;have h2:Rel1 σ v2 (.str ⟨#[10]⟩):=hr.2 1 v2 _ rfl rfl;cases h2;obtain ⟨A,cap,b,o,news,rfl,C,hA,_,U,hrel,r⟩:=cd h1;have I:(aRz (g.map toB)).length=g.length:=by rw [bm,List.length_map]
 have hmm:(g.map toB).map (fun x=>x.data.toList)=g:=by rw [List.map_map];exact (List.map_congr_left fun x _=>jj x).trans (List.map_id _)
 cases hb:g with
 |nil=>
  subst hb;refine (Tryz.strings_Join_none A cap ⟨#[10]⟩ w).mono ?_;rintro e w' ⟨rfl,rfl⟩;exact ⟨σ,_,rfl,Ext.refl _ _,P,Below.refl _ _,.str _⟩
 |cons y bs' =>
  rw [←hb];rw [I] at C hA U;have J:0<g.length:=by rw [hb];simp
  have:=hA J;subst this;rw [FC] at hrel
  have i: ∀(j:Nat) x,(g.map toB)[j]? =some x→w.cell? ⟨b,o+j,none⟩=some (.string x):=fun j x R=>by
   have T:j<news.length:=by have:=(gA0 R).1;rw [List.length_map] at this;omega
   have h3:=gA1 T;have h4:Rel1 σ news[j] (.str x):=hrel.2 j _ _ h3 (by rw [gA8,R];rfl);generalize news[j]=u at h3 h4;cases h4;exact P _ _ _ (r j _ h3)
  obtain ⟨x,R⟩: ∃x,(g.map toB)[0]? =some x:=⟨_,gA1 (by simpa using J)⟩
  have hbk:=World.block_lt_of_cell? w _ (i 0 x R);have T:Lib.join ((g.map toB).map (·.data.toList)) (⟨#[10]⟩:ByteArray).data.toList=da 10 g:=by rw [hmm];exact DM g
  have hJ:=Tryz.strings_Join b o cap (g.map toB) ⟨#[10]⟩ w i hbk (by rw [List.length_map];omega) (by rw [List.length_map];omega) (by rw [T];omega);rw [T,List.length_map] at hJ;rw [I];refine hJ.mono ?_;rintro e w' ⟨rfl,hb⟩;exact ⟨σ,_,rfl,Ext.refl _ _,fun b q v hv=>(hb.cell (p:=⟨b,q,none⟩) (World.block_lt_of_cell? w _ (P _ _ _ hv))).trans (P _ _ _ hv),hb,.str _⟩
theorem L8 (x:Bs):decide (toB (tr x)=⟨#[45,45,45]⟩)=GG x:=by
 have e:(⟨#[45,45,45]⟩:ByteArray)=toB [45,45,45]:=rfl;rw [e];unfold GG;by_cases h:tr x= [45,45,45]
 ·rw [h];rfl
 ·rw [decide_eq_false (fun g=>h (cK.1 g))]
  exact (beq_eq_false_iff_ne.2 h).symm
def zw (l:List (List Bs)):List (List AV):=aRz ((l.map (da 10)).map toB)
theorem zx (l:List (List Bs)):(zw l).length=l.length:=by rw [zw,bm,List.length_map,List.length_map]
theorem xu (l:List (List Bs)) (b:List Bs):zw l++ [[.str (toB (da 10 b))]]=zw (l++ [b]):=by simp [zw,aRz]
theorem FD (b:List Bs) (x:Bs):aRz (b.map toB)++ [[.str (toB x)]]=aRz ((b++ [x]).map toB):=by simp [aRz]
theorem KI (s:ByteArray) (hs:s.size≤1000000):AC Tryz.prog 64 [.str s] (.lst .any 1 (aRz ((sS s.data.toList).map toB))):=by
 have hsp:=wb 10 s hs;have hle:=pT 10 s;have C:=fun x (h:x∈cj 10 s)=>wc h
 have hP:=xr s;unfold sS;rw [←hP];clear hP;generalize cj 10 s=ps at*;refine kE Tryz.func64 wk wl fun E hE=> ?_
 refine kW ?_;refine kQ [.v (.lst .any 1 (aRz ps))] ?_;refine kW ?_
 refine aJ (fun i:Nat×(Nat→Nat)=>(ar [(3,.lst (.own 21 (i.2 21)) 1 (zw (nF ([],[]) ((ps.take i.1).map fun x=>x.data.toList)).1)),(4,.lst (.own 25 (i.2 25)) 1 (aRz ((nF ([],[]) ((ps.take i.1).map fun x=>x.data.toList)).2.map toB))),(8,.lst .any 1 (aRz ps)),(9,.int .i64 (aRz ps).length),(10,.int .i64 i.1)],⟨ag [],i.2⟩))
  (fun i=>i.1≤ps.length) (fun i=>ps.length-i.1) (0,fun _=>0) (gB8 _) (wO ⟨⟨_,rfl,.one (.own _ _ _ _)⟩,⟨_,rfl,.one (.own _ _ _ _)⟩,kI,kI,kI,trivial⟩ trivial rfl rfl) fun ⟨k,r⟩ hk=> ?_
 dsimp only at hk;have P:=xt ((ps.take k).map fun x=>x.data.toList) ([],[]);rw [List.length_map,gA7] at P
 have R:=(DN ((ps.take k).map fun x=>x.data.toList) ([],[]) (fun x=>x.length≤1000000) (fun x hx=>by
  obtain ⟨y,hy,rfl⟩:=List.mem_map.1 hx;have:=C y (List.mem_of_mem_take hy);show y.size≤_;omega) (by simp) (by simp)).1
 obtain ⟨a,b,j⟩: ∃a b,nF ([],[]) ((ps.take k).map fun x=>x.data.toList)=(a,b):=⟨_,_,rfl⟩
 rw [j] at P R⊢;simp only [List.length_nil] at P R⊢;have hbl:b.length≤1000001:=by omega
 have hjl:=zr b R;have hJ:=L7 b (by omega) (by omega);refine kW ?_;refine kC (fun hb=> ?_) fun hb=> ?_
 ·have I:k<ps.length:=by simpa [bm] using hb
  obtain ⟨p,hg⟩: ∃x,ps[k]? =some x:=⟨_,gA1 I⟩
  have hpz:=C p (gA2 hg)
  have g:nF ([],[]) ((ps.take (k+1)).map fun x=>x.data.toList)=oa (a,b) p.data.toList:=by
   rw [List.take_add_one,hg,List.map_append,KG,j];rfl
  have T:=Cr p.data.toList (by show p.size≤_;omega);rw [uB] at T;have hd:=L8 p.data.toList;have U:toB p.data.toList=p:=uB p;refine kW ?_;refine kP [.c [.str p]] ?_ ?_
  ·((repeat' apply aI)<;>first|exact kD|(intro J;refine ⟨?_,kG⟩;(repeat' apply aI)<;>first|exact kD|skip)|skip)
   ·exact lT hg
  refine kW ?_;refine kQ [.v (.str (toB (tr p.data.toList)))] ?_;refine kW ?_;rw [hd];unfold oa at g;cases hD:GG p.data.toList with
  |true=>
   rw [hD,if_pos rfl] at g;refine kC (fun hb=> ?_) fun hb=> ?_
   ·refine kW ?_
    refine kP [.v (.str (toB (da 10 b)))] ?_ ?_
    ·((repeat' apply aI)<;>first|exact kD|(intro J;refine ⟨?_,kG⟩;(repeat' apply aI)<;>first|exact kD|skip)|skip)
     all_goals simp only [zx,gA3,List.length_nil]
     all_goals omega
    refine kW ?_;refine AK.exit rfl ?_;refine kW ?_;refine AK.lp ⟨(k+1,_),by dsimp only;omega,wO ⟨⟨_,rfl,.of_eq ?_⟩,⟨_,rfl,.one ?_⟩,kI,kI,kU,trivial⟩ trivial rfl rfl,by dsimp only;omega⟩
    ·dsimp only
     rw [g];simp [jJ,jK,cf];exact xu a b
    ·dsimp only
     rw [g];exact .own _ _ _ _
   ·simp at hb
  |false=>
   rw [hD,if_neg (by simp)] at g;refine kC (fun hb=> ?_) fun hb=> ?_
   ·simp at hb
   ·refine kW ?_
    refine kP [] ?_ ?_
    ·((repeat' apply aI)<;>first|exact kD|(intro J;refine ⟨?_,kG⟩;(repeat' apply aI)<;>first|exact kD|skip)|skip)
     all_goals simp only [bm,List.length_map,gA3,List.length_nil]
     all_goals omega
    refine kW ?_;refine AK.lp ⟨(k+1,_),by dsimp only;omega,wO ⟨⟨_,rfl,.of_eq ?_⟩,⟨_,rfl,.of_eq ?_⟩,kI,kI,kU,trivial⟩ trivial rfl rfl,by dsimp only;omega⟩
    ·dsimp only
     rw [g];rfl
    ·dsimp only
     rw [g,←FD,U];rfl
 ·have I:k=ps.length:=by have:ps.length≤k:=by simpa [bm] using hb
                         omega
  subst I;rw [List.take_length] at j;refine AK.exit rfl ?_;refine kW ?_;refine kP [.v (.str (toB (da 10 b)))] ?_ ?_
  ·((repeat' apply aI)<;>first|exact kD|(intro J;refine ⟨?_,kG⟩;(repeat' apply aI)<;>first|exact kD|skip)|skip)
   all_goals simp only [zx,gA3,List.length_nil]
   all_goals omega
  refine kW ?_;refine aR ⟨_,rfl,?_⟩;rw [j];exact congrArg (AV.lst .any 1) (xu a b)
theorem KJ:Tryz.prog.stoodInHeld 131=false:=kk
theorem GJ:Tryz.prog.eqGuardType Tryz.prog.depth 131=false:=kk
theorem KK (a b:ByteArray):a.toList=b.toList↔a=b:=⟨LastIndex.eq_of_toList,fun h=>by rw [h]⟩
theorem DO (neg:Bool) (a b c d e f:ByteArray):Md Tryz.prog neg 131 [.string a,.string b,.string c] [.string d,.string e,.string f] (dW [.str a,.str b,.str c] [.str d,.str e,.str f]):=by
 intro w x y;cases neg
 ·constructor
  ·simp [go_sem,eqGuard,lD,GJ]
  ·simp [go_sem,lD,KJ,dW,KK]
   by_cases g:a=d<;>by_cases i:b=e<;>by_cases j:c=f<;>simp [g,i,j]
 ·constructor
  ·simp [go_sem,eqGuard,lD,GJ]
  ·simp [go_sem,lD,KJ,dW,KK]
   by_cases g:a=d<;>by_cases i:b=e<;>by_cases j:c=f<;>simp [g,i,j]
theorem yv (a b c:ByteArray):dW [.str a,.str b,.str c] [.str a,.str b,.str c]=true:=by simp [dW]
theorem DP (l:List Ob) (hl:l.length≤1000000) (j: ∀o∈l,o.v.size≤1000000):AC Tryz.prog 32 [.lst .any 9 (bF l),.lst .any 9 (bF l)] (.bool true):=by
 refine kE Tryz.func32 uo uq fun E I=> ?_
 refine kW ?_;refine kC (fun hb=> ?_) fun hb=> ?_
 ·simp at hb
 refine kW ?_;refine aJ (fun k:Nat=>(ar [(0,.lst .any 9 (bF l)),(1,.lst .any 9 (bF l)),(5,.int .i64 k)],⟨ag [],fun _=>0⟩)) (fun k=>k≤l.length) (fun k=>l.length-k) 0 (gB8 _) (wO ⟨kI,kI,kI,trivial⟩ trivial rfl rfl) fun k J=> ?_
 refine kW ?_;refine kC (fun hb=> ?_) fun hb=> ?_
 ·have g:k<l.length:=by simpa [mK] using hb
  obtain ⟨o,hg⟩: ∃x,l[k]? =some x:=⟨_,gA1 g⟩
  have P:=j o (gA2 hg);have i:=Iv o.v.size o.v o.v (gA4 _) (by omega);rw [show o.v.sameB o.v=true from V.sameB_true.2 rfl] at i;have p:=DO true o.k o.s o.n o.k o.s o.n;have r:dW [.str o.k,.str o.s,.str o.n] [.str o.k,.str o.s,.str o.n]=true:=yv _ _ _;refine kW ?_;refine kP [.c (obC o),.c (obC o),.c (obC o),.c (obC o),.v (.bool true)] ?_ ?_
  ·((repeat' apply aI)<;>first|exact kD|(intro C;refine ⟨?_,kG⟩;(repeat' apply aI)<;>first|exact kD|skip)|skip)
   all_goals first|exact CK hg|exact p|exact i|skip
   all_goals exact fun _=>⟨CK hg,trivial⟩
  rw [r];refine kC (fun hb=> ?_) fun hb=> ?_
  ·simp at hb
  ·refine kW ?_
   exact AK.lp ⟨k+1,by omega,wO ⟨kI,kI,kU,trivial⟩ trivial rfl rfl,by omega⟩
 ·have g:k=l.length:=by have:l.length≤k:=by simpa [mK] using hb
                        omega
  subst g;refine AK.exit rfl ?_;refine kW ?_;refine aR ⟨_,rfl,?_⟩;rfl
theorem GK {v:V} (hg:v.good) (g:v.size≤1000000) (key:ByteArray):AC Tryz.prog 38 [(vA (v)),.str key] (.tup [(vA ((mv key v))),.bool (aU key v.m).isSome]):=eu v key hg.ord (by omega)
theorem Bi {v:V} (i:v.size≤1000000) (key:ByteArray):AC Tryz.prog 22 [(vA (v)),.str key] (.tup [(vA ((mv key v))),.bool (aU key v.m).isSome]):=by
 have h:=Kj v key (by omega);unfold mv;cases g:aU key v.m<;>(rw [g] at h;exact h)
abbrev objAV (r:Ob×Int):AV:= .tup [.agg (obC r.1),.int .i64 r.2]
theorem On (v:V) (r:v.sb) (hsz:v.size≤1000000):AC Tryz.prog 65 [(vA (v))] (objAV (g9 v)):=by
 have C:=sI v r (by omega);unfold g9;by_cases j:v.checkC=0
 ·rw [if_neg (fun h=>h j)]
  rw [j] at C;have hg:=(V.check_good j).1;obtain ⟨g1,P,R⟩:=iA hg bq;obtain ⟨T,z2,U⟩:=iA hg bL;obtain ⟨g3,z3,s3⟩:=iA g1 dv;obtain ⟨g4,z4,s4⟩:=iA g1 kNs;have h1:=GK hg hsz bL;have h2:=GK hg hsz bq;have h3:=GK g1 (by omega) dv;have h4:=GK g1 (by omega) kNs;have h5:=ep AJ;have I:=fy v (by omega)
  have i:=L6 (ig v).k (ig v).s (ig v).n (by show (mv bL v).s.size≤_;omega) (by
   unfold ig;dsimp only;split
   ·omega
   ·decide) (by show (mv dv (mv bq v)).s.size≤_;omega)
  refine kE Tryz.func65 mf mg fun E J=> ?_
  refine kW ?_;refine kQ [.v (.int .i64 0)] ?_;refine kW ?_;refine kC (fun hb=> ?_) fun hb=> ?_
  ·cases hb
  refine kW ?_;refine kQ [.v (.tup [(vA ((mv bL v))),.bool (aU bL v.m).isSome])] ?_;refine kW ?_;refine kQ [.v (.tup [(vA ((mv bq v))),.bool (aU bq v.m).isSome])] ?_;refine kW ?_;refine kQ [.v (.tup [(vA ((mv dv (mv bq v)))),.bool (aU dv (mv bq v).m).isSome])] ?_;refine kW ?_;refine kQ [.v (.tup [(vA ((mv kNs (mv bq v)))),.bool (aU kNs (mv bq v).m).isSome])] ?_;refine kW ?_;cases p:(aU kNs (mv bq v).m).isSome with
  |false=>
   refine kC (fun hb=> ?_) fun hb=> ?_
   ·refine kW ?_
    refine kQ [.v ((vA ((V.str AJ))))] ?_;have e:ig v=⟨(mv bL v).s,AJ,(mv dv (mv bq v)).s,v⟩:=by unfold ig;rw [p];rfl
    rw [e] at i⊢;dsimp only at i;generalize g:(Ob.mk (mv bL v).s (AJ) (mv dv (mv bq v)).s v).rt=rt;have g:(aC (mv bL v).s&&aC (AJ)&&aC (mv dv (mv bq v)).s)=rt:=g;rw [g] at i;refine kW ?_;refine kQ [.v (.bool rt)] ?_;refine kC (fun hb=> ?_) fun hb=> ?_
    ·rw [if_pos (show (!rt||decide ((mv bL v).s=oL))=true from hb)]
     refine kW ?_;refine aR ⟨_,rfl,?_⟩;rfl
    ·rw [if_neg (show¬(!rt||decide ((mv bL v).s=oL))=true from fun h=>by rw [show (!rt||decide ((mv bL v).s=oL))=false from hb] at h;cases h)]
     refine kW ?_;refine kQ [.v ((vA (v)))] ?_;refine kW ?_;refine aR ⟨_,rfl,?_⟩;rfl
   ·cases hb
  |true=>
   refine kC (fun hb=> ?_) fun hb=> ?_
   ·cases hb
   ·skip
    have e:ig v=⟨(mv bL v).s,(mv kNs (mv bq v)).s,(mv dv (mv bq v)).s,v⟩:=by unfold ig;rw [p];rfl
    rw [e] at i⊢;dsimp only at i;generalize g:(Ob.mk (mv bL v).s ((mv kNs (mv bq v)).s) (mv dv (mv bq v)).s v).rt=rt;have g:(aC (mv bL v).s&&aC ((mv kNs (mv bq v)).s)&&aC (mv dv (mv bq v)).s)=rt:=g;rw [g] at i;refine kW ?_;refine kQ [.v (.bool rt)] ?_;refine kC (fun hb=> ?_) fun hb=> ?_
    ·rw [if_pos (show (!rt||decide ((mv bL v).s=oL))=true from hb)]
     refine kW ?_;refine aR ⟨_,rfl,?_⟩;rfl
    ·rw [if_neg (show¬(!rt||decide ((mv bL v).s=oL))=true from fun h=>by rw [show (!rt||decide ((mv bL v).s=oL))=false from hb] at h;cases h)]
     refine kW ?_;refine kQ [.v ((vA (v)))] ?_;refine kW ?_;refine aR ⟨_,rfl,?_⟩;rfl
 ·rw [if_pos j]
  refine kE Tryz.func65 mf mg fun E J=> ?_
  refine kW ?_;refine kQ [.v (.int .i64 v.checkC)] ?_;refine kW ?_;refine kC (fun hb=> ?_) fun hb=> ?_
  ·refine kW ?_
   refine aR ⟨_,rfl,?_⟩;rfl
  ·simp [j] at hb
theorem N3 (v:V) (r:v.sb) (hsz:v.size≤1000000):AC Tryz.prog 66 [(vA (v))] (objAV (g9 v)):=by
 have C:=EK v r (by omega);unfold g9;by_cases j:v.checkC=0
 ·rw [if_neg (fun h=>h j)]
  rw [j] at C;have hg:=(V.check_good j).1;obtain ⟨g1,J,P⟩:=iA hg bq;obtain ⟨R,z2,T⟩:=iA hg bL;obtain ⟨g3,z3,U⟩:=iA g1 dv;obtain ⟨g4,z4,s4⟩:=iA g1 kNs;have h1:=Bi hsz bL;have h2:=Bi hsz bq;have h3:=Bi (v:=mv bq v) (by omega) dv;have h4:=Bi (v:=mv bq v) (by omega) kNs
  have i:=FA (ig v).k (ig v).s (ig v).n (by show (mv bL v).s.size≤_;omega) (by
   unfold ig;dsimp only;split
   ·omega
   ·decide) (by show (mv dv (mv bq v)).s.size≤_;omega)
  refine kE Tryz.func66 n8 n9 fun E I=> ?_
  refine kW ?_;refine kQ [.v (.int .i64 0)] ?_;refine kW ?_;refine kC (fun hb=> ?_) fun hb=> ?_
  ·cases hb
  refine kW ?_;refine kQ [.v (.tup [(vA ((mv bL v))),.bool (aU bL v.m).isSome])] ?_;refine kW ?_;refine kQ [.v (.tup [(vA ((mv bq v))),.bool (aU bq v.m).isSome])] ?_;refine kW ?_;refine kQ [.v (.tup [(vA ((mv dv (mv bq v)))),.bool (aU dv (mv bq v).m).isSome])] ?_;refine kW ?_;refine kQ [.v (.tup [(vA ((mv kNs (mv bq v)))),.bool (aU kNs (mv bq v).m).isSome])] ?_;refine kW ?_;cases p:(aU kNs (mv bq v).m).isSome with
  |false=>
   refine kC (fun hb=> ?_) fun hb=> ?_
   ·refine kW ?_
    have e:ig v=⟨(mv bL v).s,AJ,(mv dv (mv bq v)).s,v⟩:=by unfold ig;rw [p];rfl
    rw [e] at i⊢;dsimp only at i;generalize g:(Ob.mk (mv bL v).s (AJ) (mv dv (mv bq v)).s v).rt=rt;have g:(aC (mv bL v).s&&aC (AJ)&&aC (mv dv (mv bq v)).s)=rt:=g;rw [g] at i;refine kW ?_;refine kQ [.v (.bool rt)] ?_;refine kC (fun hb=> ?_) fun hb=> ?_
    ·rw [if_pos (show (!rt||decide ((mv bL v).s=oL))=true from hb)]
     refine kW ?_;refine aR ⟨_,rfl,?_⟩;rfl
    ·rw [if_neg (show¬(!rt||decide ((mv bL v).s=oL))=true from fun h=>by rw [show (!rt||decide ((mv bL v).s=oL))=false from hb] at h;cases h)]
     refine kW ?_;refine aR ⟨_,rfl,?_⟩;rfl
   ·cases hb
  |true=>
   refine kC (fun hb=> ?_) fun hb=> ?_
   ·cases hb
   ·skip
    have e:ig v=⟨(mv bL v).s,(mv kNs (mv bq v)).s,(mv dv (mv bq v)).s,v⟩:=by unfold ig;rw [p];rfl
    rw [e] at i⊢;dsimp only at i;generalize g:(Ob.mk (mv bL v).s ((mv kNs (mv bq v)).s) (mv dv (mv bq v)).s v).rt=rt;have g:(aC (mv bL v).s&&aC ((mv kNs (mv bq v)).s)&&aC (mv dv (mv bq v)).s)=rt:=g;rw [g] at i;refine kW ?_;refine kQ [.v (.bool rt)] ?_;refine kC (fun hb=> ?_) fun hb=> ?_
    ·rw [if_pos (show (!rt||decide ((mv bL v).s=oL))=true from hb)]
     refine kW ?_;refine aR ⟨_,rfl,?_⟩;rfl
    ·rw [if_neg (show¬(!rt||decide ((mv bL v).s=oL))=true from fun h=>by rw [show (!rt||decide ((mv bL v).s=oL))=false from hb] at h;cases h)]
     refine kW ?_;refine aR ⟨_,rfl,?_⟩;rfl
 ·rw [if_pos j]
  refine kE Tryz.func66 n8 n9 fun E I=> ?_
  refine kW ?_;refine kQ [.v (.int .i64 v.checkC)] ?_;refine kW ?_;refine kC (fun hb=> ?_) fun hb=> ?_
  ·refine kW ?_
   refine aR ⟨_,rfl,?_⟩;rfl
  ·simp [j] at hb
theorem zy (s:ByteArray) (U:s.size≤1000000):AC Tryz.prog 30 [.str s] (.tup [.lst .any 9 (bF (jI s).1),.int .i64 (jI s).2]):=by
  have hD:=KI s U;have hn:=sf s;unfold jI;generalize (sS s.data.toList).map toB=ds at*;refine kE Tryz.func30 nD nE fun E hE=> ?_
  refine kW ?_;refine kQ [.v (.lst .any 1 (aRz ds))] ?_;refine kW ?_
  refine aJ (fun i:Nat×List Ob×(Nat→Nat)=>(ar [(4,.lst (.own 39 (i.2.2 39)) 9 (bF i.2.1)),(11,.lst .any 1 (aRz ds)),(12,.int .i64 (aRz ds).length),(13,.int .i64 i.1)],⟨ag [],i.2.2⟩))
   (fun i=>i.1≤ds.length∧hU ds []=hU (ds.drop i.1) i.2.1∧i.2.1.length≤i.1) (fun i=>ds.length-i.1) (0,[],fun _=>0) ⟨gB8 _,rfl,gA4 _⟩ (wO ⟨⟨_,rfl,.one (.own _ _ _ _)⟩,kI,kI,kI,trivial⟩ trivial rfl rfl) fun ⟨k,out,r⟩ ⟨hk,hF,j⟩=> ?_
  dsimp only at hk hF j;dsimp only;refine kW ?_;refine kC (fun hb=> ?_) fun hb=> ?_
  ·have g:k<ds.length:=by simpa [bm] using hb
   obtain ⟨d,hg⟩: ∃x,ds[k]? =some x:=⟨_,gA1 g⟩
   have hd:=v8 hg;rw [←hd,hU] at hF;have hP:=uC d;obtain ⟨P,T⟩:=oZ d;have hO:=On (aY d).1 (Gk _ _ T (by decide) P) (by omega);generalize aY d=R at*;obtain ⟨v,e⟩:=R;generalize g9 v=O at*;obtain ⟨o,f⟩:=O;dsimp only at hF hP hO P T;refine kW ?_;refine kP [.c [.str d]] ?_ ?_
   ·((repeat' apply aI)<;>first|exact kD|(intro p;refine ⟨?_,kG⟩;(repeat' apply aI)<;>first|exact kD|skip)|skip)
    ·exact lT hg
   refine kW ?_;refine kQ [.v (.tup [(vA (v)),.int .i64 e])] ?_;refine kW ?_;refine kC (fun hb=> ?_) fun hb=> ?_
   ·have C:e≠0:=by simpa using hb
    rw [if_pos C] at hF;refine kW ?_;refine aR ⟨_,rfl,?_⟩;rw [hF];rfl
   have C: ¬e≠0:=by simpa using hb
   rw [if_neg C] at hF;refine kW ?_;refine kC (fun hb=> ?_) fun hb=> ?_
   ·have I:v.kind=0:=by simpa using hb
    rw [if_pos I] at hF;refine AK.exit rfl ?_;refine kW ?_;exact AK.lp ⟨(k+1,out,r),⟨by dsimp only;omega,hF,by dsimp only;omega⟩,wO ⟨kI,kI,kI,kU,trivial⟩ trivial rfl rfl,by dsimp only;omega⟩
   have I: ¬v.kind=0:=by simpa using hb
   rw [if_neg I] at hF;refine kW ?_;refine kQ [.v (objAV (o,f))] ?_;refine kW ?_;refine kC (fun hb=> ?_) fun hb=> ?_
   ·have J:f≠0:=by simpa using hb
    rw [if_pos J] at hF;refine kW ?_;refine aR ⟨_,rfl,?_⟩;rw [hF];rfl
   have J: ¬f≠0:=by simpa using hb
   rw [if_neg J] at hF;refine kW ?_;refine kP [] ?_ ?_
   ·((repeat' apply aI)<;>first|exact kD|(intro p;refine ⟨?_,kG⟩;(repeat' apply aI)<;>first|exact kD|skip)|skip)
    all_goals simp only [mK,gA3,List.length_nil]
    all_goals omega
   refine kW ?_;refine AK.lp ⟨(k+1,out++ [o],_),⟨by dsimp only;omega,hF,by dsimp only;rw [gA5];simp;omega⟩,wO ⟨⟨_,rfl,.of_eq ?_⟩,kI,kI,kU,trivial⟩ trivial rfl rfl,by dsimp only;omega⟩;dsimp only;rw [wB];simp [jJ,jK,cf];exact ⟨rfl,rfl,rfl,rfl,rfl,rfl,rfl,rfl,rfl⟩
  ·have g:k=ds.length:=by have:ds.length≤k:=by simpa [bm] using hb
                          omega
   subst g;rw [List.drop_length,hU] at hF;refine AK.exit rfl ?_;refine kW ?_;refine aR ⟨_,rfl,?_⟩;rw [hF];rfl
theorem FE (s:ByteArray) (U:s.size≤1000000):AC Tryz.prog 31 [.str s] (.tup [.lst .any 9 (bF (jI s).1),.int .i64 (jI s).2]):=by
        have hD:=KI s U;have hn:=sf s;unfold jI;generalize (sS s.data.toList).map toB=ds at*;refine kE Tryz.func31 pc pd fun E hE=> ?_
        refine kW ?_;refine kQ [.v (.lst .any 1 (aRz ds))] ?_;refine kW ?_
        refine aJ (fun i:Nat×List Ob×(Nat→Nat)=>(ar [(4,.lst (.own 40 (i.2.2 40)) 9 (bF i.2.1)),(12,.lst .any 1 (aRz ds)),(13,.int .i64 (aRz ds).length),(14,.int .i64 i.1)],⟨ag [],i.2.2⟩))
         (fun i=>i.1≤ds.length∧hU ds []=hU (ds.drop i.1) i.2.1∧i.2.1.length≤i.1) (fun i=>ds.length-i.1) (0,[],fun _=>0) ⟨gB8 _,rfl,gA4 _⟩ (wO ⟨⟨_,rfl,.one (.own _ _ _ _)⟩,kI,kI,kI,trivial⟩ trivial rfl rfl) fun ⟨k,out,r⟩ ⟨hk,hF,j⟩=> ?_
        dsimp only at hk hF j;dsimp only;refine kW ?_;refine kC (fun hb=> ?_) fun hb=> ?_
        ·have g:k<ds.length:=by simpa [bm] using hb
         obtain ⟨d,hg⟩: ∃x,ds[k]? =some x:=⟨_,gA1 g⟩
         have hd:=v8 hg;rw [←hd,hU] at hF;have hP:=uC d;obtain ⟨P,T⟩:=oZ d;have hO:=N3 (aY d).1 (Gk _ _ T (by decide) P) (by omega);generalize aY d=R at*;obtain ⟨v,e⟩:=R;generalize g9 v=O at*;obtain ⟨o,f⟩:=O;dsimp only at hF hP hO P T;refine kW ?_;refine kP [.c [.str d]] ?_ ?_
         ·((repeat' apply aI)<;>first|exact kD|(intro p;refine ⟨?_,kG⟩;(repeat' apply aI)<;>first|exact kD|skip)|skip)
          ·exact lT hg
         refine kW ?_;refine kQ [.v (.tup [(vA (v)),.int .i64 e])] ?_;refine kW ?_;refine kC (fun hb=> ?_) fun hb=> ?_
         ·have C:e≠0:=by simpa using hb
          rw [if_pos C] at hF;refine kW ?_;refine aR ⟨_,rfl,?_⟩;rw [hF];rfl
         have C: ¬e≠0:=by simpa using hb
         rw [if_neg C] at hF;refine kW ?_;refine kC (fun hb=> ?_) fun hb=> ?_
         ·have I:v.kind=0:=by simpa using hb
          rw [if_pos I] at hF;refine AK.exit rfl ?_;refine kW ?_;exact AK.lp ⟨(k+1,out,r),⟨by dsimp only;omega,hF,by dsimp only;omega⟩,wO ⟨kI,kI,kI,kU,trivial⟩ trivial rfl rfl,by dsimp only;omega⟩
         have I: ¬v.kind=0:=by simpa using hb
         rw [if_neg I] at hF;refine kW ?_;refine kQ [.v (objAV (o,f))] ?_;refine kW ?_;refine kC (fun hb=> ?_) fun hb=> ?_
         ·have J:f≠0:=by simpa using hb
          rw [if_pos J] at hF;refine kW ?_;refine aR ⟨_,rfl,?_⟩;rw [hF];rfl
         have J: ¬f≠0:=by simpa using hb
         rw [if_neg J] at hF;refine kW ?_;refine kP [] ?_ ?_
         ·((repeat' apply aI)<;>first|exact kD|(intro p;refine ⟨?_,kG⟩;(repeat' apply aI)<;>first|exact kD|skip)|skip)
          all_goals simp only [mK,gA3,List.length_nil]
          all_goals omega
         refine kW ?_;refine AK.lp ⟨(k+1,out++ [o],_),⟨by dsimp only;omega,hF,by dsimp only;rw [gA5];simp;omega⟩,wO ⟨⟨_,rfl,.of_eq ?_⟩,kI,kI,kU,trivial⟩ trivial rfl rfl,by dsimp only;omega⟩;dsimp only;rw [wB];simp [jJ,jK,cf];exact ⟨rfl,rfl,rfl,rfl,rfl,rfl,rfl,rfl,rfl⟩
        ·have g:k=ds.length:=by have:ds.length≤k:=by simpa [bm] using hb
                                omega
         subst g;rw [List.drop_length,hU] at hF;refine AK.exit rfl ?_;refine kW ?_;refine aR ⟨_,rfl,?_⟩;rw [hF];rfl
end Go.Proofs.YtbgflifmanjpjaaGreatDoor
