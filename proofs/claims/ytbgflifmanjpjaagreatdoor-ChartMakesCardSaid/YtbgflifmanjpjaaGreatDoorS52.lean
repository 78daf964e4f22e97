/- Part 52. -/
import Derived.Test.YtbgflifmanjpjaaGreatDoorS51
set_option linter.unusedSimpArgs false
set_option linter.unusedVariables false
namespace Go.Proofs.YtbgflifmanjpjaaGreatDoor
open Go.RowKit
theorem D2 {a b:V}:(!decide (a.kind=b.kind)||(a.b !=b.b)|| !decide (a.n=b.n)|| !decide (a.s=b.s)|| !decide (((aM a.l).length:Int)=(aM b.l).length)|| !decide (((am a.m).length:Int)=(am b.m).length))=true→a≠b:=by
 rintro h rfl;simp at h
theorem Gq {a b:V} (h:(!decide (a.kind=b.kind)||(a.b !=b.b)|| !decide (a.n=b.n)|| !decide (a.s=b.s)|| !decide (((aM a.l).length:Int)=(aM b.l).length)|| !decide (((am a.m).length:Int)=(am b.m).length))=false):
  a.kind=b.kind∧a.b=b.b∧a.n=b.n∧a.s=b.s∧a.l.length=b.l.length∧a.m.length=b.m.length:=by
 simp only [aQ,au,Bool.or_eq_false_iff,Bool.not_eq_false',gB0,bne_eq_false_iff_eq] at h;obtain ⟨⟨⟨⟨⟨g,i⟩,j⟩,p⟩,r⟩,C⟩:=h;exact ⟨g,i,j,p,by omega,by omega⟩
theorem zN {a b:V} (h:a≠b):AV.bool false= .bool (a.sameB b):=by rw [V.sameB_false.2 h]
theorem yi {α:Type} {l m:List α} {k:Nat} {x y:α} (h:l.take k=m.take k) (g:l[k]? =some x) (hy:m[k]? =some y) (e:x=y):l.take (k+1)=m.take (k+1):=by rw [eK g,eK hy,h,e]
set_option maxRecDepth 4000 in
theorem Gr (n:Nat): ∀a b:V,a.size≤n→a.size≤2000000000000→AC Tryz.prog 14 [(vA (a)),(vA (b))] (.bool (a.sameB b)):=by
 induction n with
 |zero=>intro v _ h;have:=v.size_pos;omega
 |succ n ih=>
  intro a b hn hsz;have C:=a.size_eq;have I:=bW a.l;have J:=bz a.m;refine kE Tryz.func14 sm so fun E hE=> ?_
  refine kW ?_;refine kQ [] ?_;refine kC (fun hb=> ?_) fun hb=> ?_
  ·refine kW ?_
   refine aR ⟨_,rfl,?_⟩;exact zN (D2 hb)
  obtain ⟨P,R,T,U,e5,e6⟩:=Gq hb;clear hb;refine kW ?_;refine aJ (fun k:Nat=>(ax [(2,.ptr 2 0),(3,.ptr 3 0),(5,.int .i64 k)],⟨ah [(2,(vC (a)),false),(3,(vC (b)),false)],fun _=>0⟩)) (fun k=>k≤a.l.length∧a.l.take k=b.l.take k) (fun k=>a.l.length-k) 0 ⟨by omega,rfl⟩ (wO ⟨kI,kI,kI,trivial⟩ ⟨kJ,kJ,trivial⟩ rfl rfl) fun k ⟨hk,hr⟩=> ?_
  refine kW ?_;refine kC (fun hb=> ?_) fun hb=> ?_
  ·have g:k<a.l.length:=by simpa [aQ] using hb
   obtain ⟨x,hg⟩: ∃x,a.l[k]? =some x:=⟨_,gA1 g⟩
   obtain ⟨y,hy⟩: ∃x,b.l[k]? =some x:=⟨_,gA1 (by omega)⟩
   have hx:=jr hg;have j:=eS a.l (k+1);refine kW ?_;refine kP [.c (vC (x)),.c (vC (y)),.v (.bool (x.sameB y))] ?_ ?_
   ·((repeat' apply aI)<;>first|exact kD|(intro r;refine ⟨?_,kG⟩;(repeat' apply aI)<;>first|exact kD|skip)|skip)
    ·exact fb hg
    ·exact fb hy
    ·exact ih x y (by omega) (by omega)
   refine kC (fun hb=> ?_) fun hb=> ?_
   ·have i:x≠y:=V.sameB_false.1 (by simpa using hb)
    refine kW ?_;refine aR ⟨_,rfl,?_⟩;exact zN (by rintro rfl;rw [hg] at hy;exact i (Option.some.inj hy))
   ·have i:x=y:=V.sameB_true.1 (by simpa using hb)
    refine kW ?_;exact AK.lp ⟨k+1,⟨by omega,yi hr hg hy i⟩,wO ⟨kI,kI,kU,trivial⟩ ⟨kJ,kJ,trivial⟩ rfl rfl,by omega⟩
  ·have g:k=a.l.length:=by have:a.l.length≤k:=by simpa [aQ] using hb
                           omega
   subst g;have e7:a.l=b.l:=by rw [List.take_length,e5,List.take_length] at hr;exact hr
   clear hr;refine AK.exit rfl ?_;refine kW ?_;refine aJ (fun k:Nat=>(ax [(2,.ptr 2 0),(3,.ptr 3 0),(6,.int .i64 k)],⟨ah [(2,(vC (a)),false),(3,(vC (b)),false)],fun _=>0⟩)) (fun k=>k≤a.m.length∧a.m.take k=b.m.take k) (fun k=>a.m.length-k) 0 ⟨by omega,rfl⟩ (wO ⟨kI,kI,kI,trivial⟩ ⟨kJ,kJ,trivial⟩ rfl rfl) fun k ⟨hk,hr⟩=> ?_
   refine kW ?_;refine kC (fun hb=> ?_) fun hb=> ?_
   ·have g:k<a.m.length:=by simpa [au] using hb
    obtain ⟨⟨p,x⟩,hg⟩: ∃x,a.m[k]? =some x:=⟨_,gA1 g⟩
    obtain ⟨⟨q,y⟩,hy⟩: ∃x,b.m[k]? =some x:=⟨_,gA1 (by omega)⟩
    have hx:=js hg;have j:=dD a.m (k+1);refine kW ?_;refine kP [.c (.str p::(vC (x))),.c (.str q::(vC (y))),.c (.str p::(vC (x))),.c (.str q::(vC (y))),.v (.bool (x.sameB y))] ?_ ?_
    ·((repeat' apply aI)<;>first|exact kD|(intro r;refine ⟨?_,kG⟩;(repeat' apply aI)<;>first|exact kD|skip)|skip)
     ·exact bm hg
     ·exact bm hy
     ·exact bm hg
     ·exact bm hy
     ·exact ih x y (by omega) (by omega)
    refine kC (fun hb=> ?_) fun hb=> ?_
    ·have i: ¬(p=q∧x=y):=by
      rintro ⟨rfl,rfl⟩;rw [V.sameB_true.2 rfl] at hb;simp at hb
     refine kW ?_;refine aR ⟨_,rfl,?_⟩;exact zN (by rintro rfl;rw [hg] at hy;cases hy;exact i ⟨rfl,rfl⟩)
    ·have i:p=q∧x=y:=by
      simp only [Bool.or_eq_false_iff,Bool.not_eq_false',gB0] at hb;exact ⟨hb.1,V.sameB_true.1 hb.2⟩
     refine kW ?_;exact AK.lp ⟨k+1,⟨by omega,yi hr hg hy (by rw [i.1,i.2])⟩,wO ⟨kI,kI,kU,trivial⟩ ⟨kJ,kJ,trivial⟩ rfl rfl,by omega⟩
   ·have g:k=a.m.length:=by have:a.m.length≤k:=by simpa [au] using hb
                            omega
    subst g;have e8:a.m=b.m:=by rw [List.take_length,e6,List.take_length] at hr;exact hr
    refine AK.exit rfl ?_;refine kW ?_;refine aR ⟨_,rfl,?_⟩;exact congrArg AV.bool (V.sameB_true.2 (V.ext_iff'.2 ⟨P,R,T,U,e7,e8⟩)).symm
theorem IQ (neg:Bool):tE Tryz.prog neg 30 (.pointer none) (.pointer none) true:=by
 intro w x y g
 have hg:(eqGuard (jj neg) 30 x y (.pointer none) (.pointer none)).run Tryz.prog w= .ok () w:=by
  cases x<;>cases y<;>first|(cases g;done)|(cases neg<;>simp [go_sem,eqGuard,jj])
 cases neg
 ·exact ⟨hg,by simp [go_sem,jj]⟩
 ·exact ⟨hg,by simp [go_sem,jj]⟩
theorem IR: ∀(l:List Fl) (c:CS),(c.all l).2.2=0→(c.all l).2.1=⟨#[]⟩
 | [],c,_=>rfl
 |f::l,c,h=>by
  rw [CS.all] at h⊢;split at h
  ·rename_i g;exact absurd h g
  ·rename_i g;rw [if_neg g];exact IR l _ h
abbrev cmC (nm ver:ByteArray) (v:V) (ts:TS):List AV:= [.str nm,.str ver,.int .i64 v.kind,.bool v.b,.int .i64 v.n,.str v.s,.lst .any 6 (aM v.l),.lst .any 7 (am v.m),.lst .any 2 (rowsT2 ts),.lst .any 1 (lO ts),.top]
def lkJ (l:List Fl) (nm ver:ByteArray) (v:V) (ts:TS) (x:Nat×V×List Fl):Fr×St:=(ax [(7,.np 1000001 0),(10,.ptr 10 0),(11,.lst (.own 11 0) 2 (aq x.2.2)),(77,.lst .any 2 (aq l)),(78,.int .i64 (aq l).length),(79,.int .i64 x.1)],⟨ah [(10,(vC (x.2.1)),false),(1000001,cmC nm ver v ts,false)],fun _=>0⟩)
set_option maxHeartbeats 4000000 in
theorem zO (l:List Fl) (s:ByteArray) (hl:l.length≤4398046511103) (hp: ∀p∈l,p.1.size≤140737488355328∧p.2.size≤140737488355328) (hs:s.size≤140737488355328):AC Tryz.prog 4 [.lst .any 2 (aq l),.str s] (.bool true):=by
 have hL:=IP l (by omega);have hA:=Gp;refine kE Tryz.func4 kn ko fun E hE=> ?_
 refine kW ?_;refine kQ [.v (.bool (decide (im l l.length≤3000)))] ?_;refine kW ?_;refine kC (fun hb=> ?_) fun hb=> ?_
 ·clear hb
  refine kW ?_;refine kQ [.v (.bool true)] ?_;refine kW ?_;refine aR ⟨_,rfl,?_⟩;rfl
 have hb2:decide (im l l.length≤3000)=true∧s.size≤500:=by
  cases h1:decide (im l l.length≤3000) with
  |false=>rw [h1] at hb;simp at hb
  |true=>rw [h1] at hb;exact ⟨rfl,by have:decide ((s.size:Int)>500)=false:=hb;have:=gB4 this;omega⟩
 clear hb;obtain ⟨U,hs5⟩:=hb2;have U:=gB3 U;have hz:l.length≤32→ ∀p∈l,p.1.size≤1000000:=fun h p hm=>(Cw h hp U p hm).1
 have hW:=J2 l hl hz;have I:=Ch l hl hz;have h1:=HO s (by omega);have h2:=rJ s hs;have h3:=yb s hs;have h4:=zJ s hs;refine kW ?_;refine kQ [.v (.tup [.str (gK l).2.1,.int .i64 (gK l).2.2])] ?_;refine kW ?_;by_cases he:(gK l).2.2≠0
 ·unfold nwS nwR at I
  rw [if_pos he,if_pos he] at I;refine kQ [.k [] [] [] qKs (.tup [.raw (.pointer none),.str (gK l).2.1,.int .i64 (gK l).2.2])] ?_;refine kW ?_;refine kQ [.v (.bool (cA s)),.v (.bool (cA s)),.v (.bool (pJ s)),.v (.bool (pJ s))] ?_;refine kC (fun hb=> ?_) fun hb=> ?_
  ·simp at hb
  clear hb;refine kW ?_;refine kP [] ?_ ?_
  ·((repeat' apply aI)<;>first|exact kD|(intro r;refine ⟨?_,kG⟩;(repeat' apply aI)<;>first|exact kD|skip)|skip)
   all_goals exact IQ false
  refine kC (fun hb=> ?_) fun hb=> ?_
  ·clear hb
   refine kW ?_;refine kP [.v (.bool true)] ?_ ?_
   ·((repeat' apply aI)<;>first|exact kD|(intro r;refine ⟨?_,kG⟩;(repeat' apply aI)<;>first|exact kD|skip)|skip)
    all_goals first|exact IQ false|skip
   refine kW ?_;refine aR ⟨_,rfl,?_⟩;simp [he];rfl
  ·simp [he] at hb
 have g:(gK l).2.2=0:=by omega
 unfold nwS nwR at I;rw [if_neg he,if_neg he] at I;have I:=I.ren Cs yg Ct
 have hf0:(aw l).2.2=0:=by
  cases Classical.em ((aw l).2.2=0) with
  |inl h=>exact h
  |inr h=>unfold gK at g;rw [if_pos h] at g;exact absurd g h
 obtain ⟨h32,hnd,hnm,j,_⟩:=me hf0
 have hq:gK l=cs0.all (aw l).1:=by
  unfold gK at g⊢;rw [if_neg (by omega)] at g⊢;split at g
  ·rename_i h;rw [if_pos h]
  ·rename_i h
   rw [if_neg h];split at g
   ·exact absurd g (by decide)
   ·rename_i h2;rw [if_neg h2]
 have hS:=BE l (by omega);rw [←j] at hS;rw [hq] at I hW g he⊢;obtain ⟨hl32,_⟩:=oy hf0;have hll:=ak (aw l).1;have hfn:=IR _ _ g
 have R: ∀f∈(aw l).1,cA f.1=true:=fun f hf=>by
  rw [j] at hf;exact (hnm f ((gp l).mem_iff.1 hf)).1
 have hnd2:((aw l).1.map (·.1)).Nodup:=by
  rw [j];exact ((gp l).map _).nodup_iff.2 hnd
 have C:=Ci (aw l).1 cs0 R g;have T:=IJ (aw l).1 cs0 hnd2 g;generalize hall:cs0.all (aw l).1=q at*;obtain ⟨⟨nm,ver,v,ts,d⟩,fn,e⟩:=q;dsimp only at g hfn hW C T;subst g hfn;rcases ho:nwO ⟨nm,ver,v,ts,d⟩ with _|d0
 all_goals
  rw [ho] at I;refine kP [.k [] [] (by first|exact [(1000001,chU nm ver v ts (.np 1900101 0)),(1900101,[mcA (aY d0)])]|exact [(1000001,chU nm ver v ts (.raw (.map none)))]) qKs (.tup [.np 1000001 0,.str ⟨#[]⟩,.int .i64 0])] ?_ ?_
  ·((repeat' apply aI)<;>first|exact kD|(intro r;refine ⟨?_,kG⟩;(repeat' apply aI)<;>first|exact kD|skip)|skip)
   all_goals exact I
  refine AK.weak (Weak.introZ (L:= [(0,.lst .any 2 (aq l)),(1,.str s),(5,.str ⟨#[]⟩),(6,.int .i64 0),(7,.np 1000001 0),(8,.str ⟨#[]⟩),(9,.int .i64 0)]) (BL:= [(1000001,cmC nm ver v ts,false)]) ⟨kI,kI,kI,kI,kI,kI,kI,trivial⟩ ⟨⟨_,rfl,.refl _,.refl _,.refl _,.refl _,.refl _,.refl _,.refl _,.refl _,.any _ _ _,.any _ _ _,(by first|exact .top _ rfl|exact .gone _ rfl),trivial⟩,trivial⟩ rfl ⟨rfl,trivial⟩) ?_;refine kW ?_;refine kQ [.v (.bool (cA s)),.v (.bool (cA s)),.v (.bool (pJ s)),.v (.bool (pJ s))] ?_;refine kC (fun hb=> ?_) fun hb=> ?_
  ·simp at hb
  clear hb;refine kW ?_;refine kP [] ?_ ?_
  ·((repeat' apply aI)<;>first|exact kD|(intro r;refine ⟨?_,kG⟩;(repeat' apply aI)<;>first|exact kD|skip)|skip)
   all_goals exact zM false
  refine kC (fun hb=> ?_) fun hb=> ?_
  ·simp at hb
  clear hb;refine kW ?_;refine kQ [.v (.lst .any 2 (aq (aw l).1))] ?_;refine kW ?_;refine aJ (lkJ (aw l).1 nm ver v ts) (fun x=>x.1≤(aw l).1.length∧((aw l).1.drop x.1).foldl lwS (x.2.1,x.2.2)=(v,ts.map Prod.fst)∧x.2.2.length≤x.1∧x.2.1.size≤1000000) (fun x=>(aw l).1.length-x.1) (0,b8 [],[]) ⟨gB8 _,C,gA4 _,by decide+kernel⟩ (Weak.introZ ⟨kI,kI,⟨_,rfl,.one (.own _ _ _ _)⟩,kI,kI,kI,trivial⟩ ⟨⟨_,rfl,.refl _,.refl _,.refl _,.refl _,.any _ _ _,.any _ _ _,trivial⟩,kJ,trivial⟩ rfl ⟨rfl,trivial⟩) fun ⟨k,va,tp⟩ hI=> ?_
  obtain ⟨hk,i,htl,hvz⟩:=hI;dsimp only at hk i htl hvz;refine kW ?_;refine kC (fun hb=> ?_) fun hb=> ?_
  ·have J:k<(aw l).1.length:=by simpa [ak] using hb
   clear hb;obtain ⟨⟨n,t⟩,hg⟩: ∃x,(aw l).1[k]? =some x:=⟨_,gA1 J⟩
   have hm:=gA2 hg;have hnn:=R _ hm;have hnA:=T _ hm;rw [ju hg,List.foldl_cons] at i;have hP:=tm t;obtain ⟨hpg,hpz⟩:=og t;have hG:=zK (v:=(bi t).1) (by omega) kNm
   have hT:=vS n (by
    unfold cA at hnn;have:n.size≤256:=gB3 (Bool.and_eq_true_iff.1 hnn).2;omega)
   unfold lwS at i;dsimp only at i hnA;generalize bi t=P at*;obtain ⟨u,e⟩:=P;dsimp only at i hnA hP hpg hpz hG;refine kW ?_;refine kP [.c [.str n,.str t]] ?_ ?_
   ·((repeat' apply aI)<;>first|exact kD|(intro r;refine ⟨?_,kG⟩;(repeat' apply aI)<;>first|exact kD|skip)|skip)
    all_goals exact bY hg
   refine kW ?_;refine kQ [.v (.tup [(vA (u)),.int .i64 e])] ?_;refine kW ?_;refine kP [.v (.tup [(vA ((mvK kNm u))),.bool (bh kNm u.m).isSome])] ?_ ?_
   ·((repeat' apply aI)<;>first|exact kD|(intro r;refine ⟨?_,kG⟩;(repeat' apply aI)<;>first|exact kD|skip)|skip)
    all_goals exact hG
   refine kW ?_;refine kQ [] ?_;refine kC (fun hb=> ?_) fun hb=> ?_
   ·have hh:n=abN∧(mvK kNm u).s≠nm:=by simpa [abN] using hb
    exact absurd (hnA hh.1) hh.2
   clear hb;refine kW ?_;refine kQ [] ?_;refine kC (fun hb=> ?_) fun hb=> ?_
   ·have hh:n=vaN∧u.kind=5:=by simpa [vaN] using hb
    clear hb;rw [if_pos hh,hh.1,Ks] at i;refine kW ?_;exact AK.lp ⟨(k+1,u,tp),⟨J,i,by simp;omega,by dsimp only;omega⟩,Weak.introZ ⟨kI,kI,kI,kI,kI,kU,trivial⟩ ⟨kJ,kJ,trivial⟩ rfl ⟨rfl,trivial⟩,by dsimp only;omega⟩
   ·have hh: ¬(n=vaN∧u.kind=5):=by simpa [vaN] using hb
    clear hb;rw [if_neg hh] at i;refine kW ?_;refine kQ [.v (.bool (tmB n))] ?_;refine kW ?_;refine kC (fun hb=> ?_) fun hb=> ?_
    ·rw [hb,if_pos rfl] at i
     clear hb;have htl2:=ak tp;refine kW ?_;refine kQ [] ?_;refine kW ?_;exact AK.lp ⟨(k+1,va,tp++ [(n,t)]),⟨J,i,by simp;omega,by dsimp only;omega⟩,Weak.introZ ⟨kI,kI,⟨_,rfl,.of_eq (congrArg (AV.lst _ 2) (vf tp (n,t)).symm)⟩,kI,kI,kU,trivial⟩ ⟨kJ,kJ,trivial⟩ rfl ⟨rfl,trivial⟩,by dsimp only;omega⟩
    ·rw [hb,if_neg (by decide)] at i
     clear hb;refine kW ?_;exact AK.lp ⟨(k+1,va,tp),⟨J,i,by simp;omega,by dsimp only;omega⟩,Weak.introZ ⟨kI,kI,kI,kI,kI,kU,trivial⟩ ⟨kJ,kJ,trivial⟩ rfl ⟨rfl,trivial⟩,by dsimp only;omega⟩
  ·have hge:k=(aw l).1.length:=by
    have: ¬k<(aw l).1.length:=by simpa [ak] using hb
    omega
   clear hb;rw [gB6 (by omega),List.foldl_nil] at i;injection i with hf1 hf2
   subst hf1 hf2;have hSv:=Gr va.size va va (gA4 _) (by omega);rw [V.sameB_true.2 rfl] at hSv;have hSt:=K4 (ts.map Prod.fst) (ts.map Prod.fst) (by omega) (by omega);rw [decide_eq_true rfl] at hSt;refine AK.exit rfl ?_;refine kW ?_;refine kQ [.v (.bool true),.v (.bool true),.v (.bool true)] ?_;refine kW ?_;refine aR ⟨_,rfl,?_⟩;rfl
end Go.Proofs.YtbgflifmanjpjaaGreatDoor
