/- Part 49. -/
import Derived.Test.YtbgflifmanjpjaaGreatDoorS48
set_option linter.unusedSimpArgs false
set_option linter.unusedVariables false
namespace Go.Proofs.YtbgflifmanjpjaaGreatDoor
open Go.RowKit
structure CS.At (c:CS) (k:Nat):Prop where
 sz:SzD c.d
 nd:(c.d.map Prod.fst).Nodup
 lt:c.ts.length≤k
theorem ye {d:DF} {s:ByteArray} (h:(lN d s).1=none):(lN d s).2≠0:=by
 unfold lN at h⊢;split
 ·assumption
 ·rename_i g
  rw [if_neg g] at h;cases i:fu d (bL s.data.toList).1 with
  |none=>show (13:Int)≠0;decide
  |some d' =>rw [i] at h;cases h
theorem CS.At.step {c:CS} {k:Nat} (h:c.At k) (f:Fl):(c.step f).1.At (k+1):=by
 unfold CS.step;split
 ·exact ⟨h.sz,h.nd,Nat.le_succ_of_le h.lt⟩
 ·split
  ·exact ⟨h.sz,h.nd,Nat.le_succ_of_le h.lt⟩
  ·split
   ·rcases i:lN c.d f.2 with ⟨_|x,e⟩
    ·exact ⟨h.sz,h.nd,Nat.le_succ_of_le h.lt⟩
    ·have j:(lN c.d f.2).1=some x:=by rw [i]
     obtain ⟨_,_,g,_⟩:=ya j;exact ⟨zI _ _ _ h.sz (fun n hn=>gB7 (j6 _ n hn) (by omega)) g,zH _ _ _ h.nd g,by show (c.ts++_).length≤_;rw [gA5];exact Nat.succ_le_succ h.lt⟩
   ·exact ⟨h.sz,h.nd,Nat.le_succ_of_le h.lt⟩
theorem oy {l:List Fl} (h:(aw l).2.2=0):(aw l).1.length≤32∧ ∀f∈(aw l).1,f.2.size≤65536:=by
 obtain ⟨g,_,i,j,_⟩:=me h;rw [j];exact ⟨by rw [qC];exact g,fun f p=>(i f ((gp l).mem_iff.1 p)).2⟩
def okO (c:CS):Option DF→Prop
 |none=>c.ts= []∧c.d= []
 |some d=>c.ts≠ []∧d=c.d
theorem okO.get {c:CS} {o:Option DF} (h:okO c o):o.getD []=c.d:=by
 cases o with
 |none=>exact h.2.symm
 |some d=>exact h.2
def Gi (i:Nat):Nat:=swY 2000000 23 (swY 2900001 1900101 i)
def Cf (i:Nat):Nat:=swY 2000000 23 (swY 2900001 1900101 (swY 1900101 1900102 i))
theorem Cg (i j:Nat) (h:Gi i=Gi j):i=j:=bp _ _ (bp _ _ h)
theorem pK (i j:Nat) (h:Cf i=Cf j):i=j:=bp _ _ (bp _ _ (bp _ _ h))
theorem EZ (i:Nat):kd (Gi i)=kd i:=by unfold Gi;rw [bM (by rfl),bM (by rfl)]
theorem tw (i:Nat):kd (Cf i)=kd i:=by unfold Cf;rw [bM (by rfl),bM (by rfl),bM (by rfl)]
abbrev cIn (_:DF):List Nat:= [23,1900101]
def cZ (k:Nat) (c:CS) (o:Option DF):List (Nat×List AV):=(23,chU c.nm c.ver c.v c.ts (mC k o))::mS k o
def nJ (l:List Fl) (x:Nat×CS×Option DF):Fr×St:=(ax [(7,.int .i64 0),(8,.ptr 23 0),(24,.lst .any 2 (aq l)),(25,.int .i64 (aq l).length),(26,.int .i64 x.1)],⟨ah (bxF (cZ 1900101 x.2.1 x.2.2)),fun _=>0⟩)
def nK (i:CS) (g:Int):Option (Option DF)→Prop
 |none=>g≠0
 |some o=>g=0∧okO i o
def nFr (l:List Fl) (k:Nat) (g:Int):Option (Option DF)→Fr
 |none=>ax [(7,.int .i64 g),(10,.ptr 10 0)]
 |some _=>ax [(7,.int .i64 0),(8,.ptr 23 0),(10,.ptr 10 0),(24,.lst .any 2 (aq l)),(25,.int .i64 (aq l).length),(26,.int .i64 k)]
def nSt (n t:ByteArray) (g:CS):Option (Option DF)→St
 |none=>⟨ah [(10,[.str n,.str t],false)],fun _=>0⟩
 |some o=>⟨ah ((10,[.str n,.str t],false)::bxF (cZ 1900101 g o)),fun _=>0⟩
def nwO (c:CS):Option DF:=match c.ts with
 | []=>none
 |_::_=>some c.d
theorem okO.eq {c:CS} {o:Option DF} (h:okO c o):nwO c=o:=by
 obtain ⟨nm,ver,v,ts,d⟩:=c;cases o with
 |none=>
  obtain ⟨g,_⟩:=h;dsimp only at g;subst g;rfl
 |some d' =>
  obtain ⟨g,i⟩:=h;dsimp only at g i;subst i;cases ts with
  |nil=>exact absurd rfl g
  |cons=>rfl
def nwS (q:CS×ByteArray×Int):List (Nat×List AV):=if q.2.2≠0 then [] else cZ 1900101 q.1 (nwO q.1)
def nwR (q:CS×ByteArray×Int):AV:=if q.2.2≠0 then .tup [.raw (.pointer none),.str q.2.1,.int .i64 q.2.2] else .tup [.np 23 0,.str ⟨#[]⟩,.int .i64 0]
theorem DQ {res:List ARes} {q:CS×ByteArray×Int} (g:q.2.2≠0) {f:Fr} {s:St} (h:RQK res qKs [] (.tup [.raw (.pointer none),.str q.2.1,.int .i64 q.2.2]) .ret f s):RQK res qKs (nwS q) (nwR q) .ret f s:=by
 unfold nwS nwR;rw [if_pos g,if_pos g];exact h
theorem LM {res:List ARes} {q:CS×ByteArray×Int} {o:Option DF} (i:q.2.2=0) (g:okO q.1 o) {f:Fr} {s:St} (h:RQK res qKs (cZ 1900101 q.1 o) (.tup [.np 23 0,.str ⟨#[]⟩,.int .i64 0]) .ret f s):RQK res qKs (nwS q) (nwR q) .ret f s:=by
 unfold nwS nwR;rw [if_neg (by omega),if_neg (by omega),g.eq];exact h
theorem kPn {p:Prop} (h:p:=by first|exact trivial|exact ⟨rfl,trivial⟩|exact ⟨rfl,rfl,trivial⟩):p:=h
set_option maxHeartbeats 8000000 in
theorem Ch (l:List Fl) (hl:l.length≤4398046511103) (hz:l.length≤32→ ∀p∈l,p.1.size≤1000000):MTK Tryz.prog 10 [] [] [.lst .any 2 (aq l)] qKs (nwS (gK l)) (nwR (gK l)):=by
 have hF:=JE l hl hz;have hM:AC Tryz.prog 36 [.lst .any 7 []] ((vA ((b8 [])))):=l9 [] (by decide+kernel);refine MTK.enter Tryz.func10 vU vV (by rfl) (by rfl) fun E hE=> ?_
 show AK _ _ _ [.c lP] _ _;rw [lP];by_cases P:(aw l).2.2≠0
 ·have hq:gK l=(cs0,(aw l).2):=by unfold gK;rw [if_pos P]
  rw [hq];refine kW ?_;refine kQ [.v (.tup [.lst .any 2 (aq (aw l).1),.str (aw l).2.1,.int .i64 (aw l).2.2])] ?_;refine kW ?_;refine kC (fun hb=> ?_) fun hb=> ?_
  ·clear hb
   refine kW ?_;exact aR (DQ P ⟨⟨_,rfl,rfl⟩,trivial⟩)
  ·exact absurd hb (by simpa using P)
 have hz1:(aw l).2.2=0:=by omega
 obtain ⟨hl32,R⟩:=oy hz1
 have hq:gK l=if (cs0.all (aw l).1).2.2≠0 then cs0.all (aw l).1 else if (cs0.all (aw l).1).1.nm=⟨#[]⟩ then (cs0,abN,3) else cs0.all (aw l).1:=by
  unfold gK;rw [if_neg P]
 rw [hq];clear hq;generalize hfp:aw l=fp at*;obtain ⟨J,nm',e'⟩:=fp;dsimp only at P hz1 hl32 R hF⊢;subst hz1;have hll:=ak J;refine kW ?_;refine kQ [.v (.tup [.lst .any 2 (aq J),.str nm',.int .i64 0])] ?_;refine kW ?_;refine kCf ?_;refine kW ?_;refine kQ [.v ((vA ((b8 []))))] ?_;refine kW ?_;refine aJ (nJ J) (fun x=>x.1≤J.length∧cs0.all J=x.2.1.all (J.drop x.1)∧x.2.1.At x.1∧okO x.2.1 x.2.2) (fun x=>J.length-x.1) (0,cs0,none) ⟨gB8 _,rfl,⟨fun p hp=>(by cases hp),.nil,gB8 _⟩,rfl,rfl⟩ (Weak.introZ (L:= [(7,.int .i64 0),(8,.ptr 23 0),(24,.lst .any 2 (aq J)),(25,.int .i64 (aq J).length),(26,.int .i64 0)]) (BL:=bxF (cZ 1900101 cs0 none)) ⟨kI,kI,kI,kI,kI,trivial⟩ ⟨⟨_,rfl,.refl _,.refl _,.refl _,.refl _,.refl _,.refl _,.refl _,.refl _,.own _ _ _ _,.own _ _ _ _,.refl _,trivial⟩,trivial⟩ rfl kPn) fun ⟨k,c,o⟩ hI=> ?_
 obtain ⟨hk,g,T,r⟩:=hI;obtain ⟨nm,ver,v,ts,d⟩:=c;dsimp only at hk g T r;rcases o with _|C
 all_goals
  show AK _ _ _ _ (ax _) _;refine kW ?_;refine kC (fun hb=> ?_) fun hb=> ?_
  ·have hlt:k<J.length:=by simpa [ak] using hb
   clear hb;obtain ⟨⟨n,t⟩,hg⟩: ∃x,J[k]? =some x:=⟨_,gA1 hlt⟩
   have hft:t.size≤140737488355328:=gB7 (R (n,t) (gA2 hg)) (by omega);rw [ju hg,CS.all] at g;have U:=T.step (n,t);generalize j:CS.step _ (n,t)=q at g U;obtain ⟨c1,e1⟩:=q;dsimp only at g U;refine kW ?_;refine kP [.c [.str n,.str t]] ?_ ?_
   ·((repeat' apply aI)<;>first|exact kD|(intro hgd;refine ⟨?_,kG⟩;(repeat' apply aI)<;>first|exact kD|skip)|skip)
    all_goals exact bY hg
   refine kS ?_;refine AK.cutK (nK c1 e1) (nFr J k e1) (nSt n t c1) ?_ fun i hi=> ?_
   ·unfold CS.step at j
    dsimp only at j;refine kW ?_;refine kC (fun hb=> ?_) fun hb=> ?_
    ·have hn:n=abN:=gB3 hb
     clear hb;rw [if_pos hn] at j;cases j;have hH0:=Le nm ver t v ts (by first|exact some C|exact none);have hH:MTK Tryz.prog 40 qKs (cZ 1900101 ⟨nm,ver,v,ts,d⟩ (by first|exact some C|exact none)) [.np 23 0,.str t] qKs (cZ 1900101 ⟨(fi nm ver t).1,(fi nm ver t).2.1,v,ts,d⟩ (by first|exact some C|exact none)) (.int .i64 (fi nm ver t).2.2):=hH0.ren Gi Cg EZ;refine kW ?_;refine kQ [.k (by first|exact cIn C|exact [23]) qKs (cZ 1900101 ⟨(fi nm ver t).1,(fi nm ver t).2.1,v,ts,d⟩ (by first|exact some C|exact none)) qKs (.int .i64 (fi nm ver t).2.2)] ?_;refine kW ?_;by_cases I:(fi nm ver t).2.2=0
     ·refine cE ⟨some ?_,⟨I,?_⟩,?_⟩
      ·first|exact some C|exact none
      ·exact r
      ·exact Weak.introZ ⟨⟨_,rfl,.of_eq (congrArg (AV.int .i64) I)⟩,kI,kI,kI,kI,kI,trivial⟩ ⟨kJ,kBl⟩ rfl kPn
     ·exact cE ⟨none,I,Weak.introZ ⟨kI,kI,trivial⟩ ⟨kJ,trivial⟩ rfl trivial⟩
    have hn1: ¬n=abN:=gB4 hb;rw [if_neg hn1] at j;clear hb;refine kW ?_;refine kC (fun hb=> ?_) fun hb=> ?_
    ·have hn:n=vaN:=gB3 hb
     clear hb;rw [if_pos hn] at j;cases j;have hH0:=LK nm ver t v ts (by first|exact some C|exact none);have hH:MTK Tryz.prog 41 qKs (cZ 1900101 ⟨nm,ver,v,ts,d⟩ (by first|exact some C|exact none)) [.np 23 0,.str t] qKs (cZ 1900101 ⟨nm,ver,(qP v t).1,ts,d⟩ (by first|exact some C|exact none)) (.int .i64 (qP v t).2):=hH0.ren Gi Cg EZ;refine kW ?_;refine kQ [.k (by first|exact cIn C|exact [23]) qKs (cZ 1900101 ⟨nm,ver,(qP v t).1,ts,d⟩ (by first|exact some C|exact none)) qKs (.int .i64 (qP v t).2)] ?_;refine kW ?_;by_cases I:(qP v t).2=0
     ·refine cE ⟨some ?_,⟨I,?_⟩,?_⟩
      ·first|exact some C|exact none
      ·exact r
      ·exact Weak.introZ ⟨⟨_,rfl,.of_eq (congrArg (AV.int .i64) I)⟩,kI,kI,kI,kI,kI,trivial⟩ ⟨kJ,kBl⟩ rfl kPn
     ·exact cE ⟨none,I,Weak.introZ ⟨kI,kI,trivial⟩ ⟨kJ,trivial⟩ rfl trivial⟩
    have hn2: ¬n=vaN:=gB4 hb;rw [if_neg hn2] at j;clear hb;have hPx:=rE n teN;refine kW ?_;refine kQ [.v (.bool (eE n teN))] ?_;refine kW ?_;refine kC (fun hb=> ?_) fun hb=> ?_
    ·rw [if_pos hb] at j
     clear hb;have hT:=LL nm ver v ts (by have:=T.lt;dsimp only at this;omega) (by first|exact some C|exact none) (by rw [r.get];exact T.sz) (by rw [r.get];exact T.nd) (n,t) hft;rw [r.get] at hT;dsimp only at hT;rcases hP:lN d t with ⟨_|x,e⟩
     ·rw [hP] at j hT
      cases j;have I:e1≠0:=by have:=ye (d:=d) (s:=t) (by rw [hP]);rw [hP] at this;exact this
      have hT:=hT.ren Cf pK tw;refine kW ?_;refine kQ [.k (by first|exact cIn C|exact [23]) qKs [(23,[.str nm,.str ver,.int .i64 v.kind,.bool v.b,.int .i64 v.n,.str v.s,.lst .any 6 (aM v.l),.lst .any 7 (am v.m),.lst .any 2 (rowsT2 ts),.lst .any 1 (lO ts),mX (by first|exact some C|exact none)])] [] (.int .i64 e1)] ?_;refine kW ?_;exact cE ⟨none,I,Weak.introZ ⟨kI,kI,trivial⟩ ⟨kJ,trivial⟩ rfl trivial⟩
     ·rw [hP] at j hT
      cases j;have I:e=0:=by have:=(ya (d:=d) (s:=t) (x:=x) (by rw [hP])).2.2.2;rw [hP] at this;exact this
      subst I;have hT:=hT.ren Cf pK tw;refine kW ?_;refine kQ [.k (by first|exact cIn C|exact [23]) qKs (cZ 1900102 ⟨nm,ver,v,ts++ [((n,t),x.1)],x.2⟩ (some x.2)) qKs (.int .i64 0)] ?_;refine kW ?_;exact cE ⟨some (some x.2),⟨rfl,by simp [CS.add],rfl⟩,Weak.trn (Weak.ren _ 1900102 1900101 rfl) (Weak.introZ ⟨kI,kI,kI,kI,kI,kI,trivial⟩ ⟨kJ,kBl⟩ rfl kPn)⟩
    ·rw [if_neg (by rw [hb];decide)] at j
     cases j;refine kW ?_;refine cE ⟨some ?_,⟨rfl,?_⟩,?_⟩
     ·first|exact some C|exact none
     ·exact r
     ·exact Weak.introZ ⟨kI,kI,kI,kI,kI,kI,trivial⟩ ⟨kJ,kBl⟩ rfl kPn
   rcases i with _|o1
   ·have I:e1≠0:=hi
    rw [if_pos I] at g;show AK _ _ _ _ (ax _) _;refine kW ?_;refine kC (fun hb=> ?_) fun hb=> ?_
    ·clear hb
     refine kW ?_;rw [g,if_pos I];exact aR (DQ I ⟨⟨_,rfl,rfl⟩,trivial⟩)
    ·exact absurd hb (by simpa using I)
   ·obtain ⟨rfl,ho1⟩:=hi
    rw [if_neg (show¬(0:Int)≠0 by decide)] at g;show AK _ _ _ _ (ax _) _;rcases o1 with _|d1
    all_goals
     refine kW ?_;refine kCf ?_;refine kW ?_;exact AK.lp ⟨(k+1,c1,(by first|exact some d1|exact none)),⟨hlt,g,U,ho1⟩,Weak.introZ ⟨kI,kI,kI,kI,kU,trivial⟩ kBl rfl kPn,by dsimp only;omega⟩
  ·have hge:k=J.length:=by
    have: ¬k<J.length:=by simpa [ak] using hb
    omega
   clear hb;rw [gB6 (by omega),CS.all] at g;rw [g,if_neg (show¬(0:Int)≠0 by decide)];refine AK.exit rfl ?_;refine kW ?_;refine kC (fun hb=> ?_) fun hb=> ?_
   ·have hn0:nm=⟨#[]⟩:=gB3 hb
    clear hb;rw [if_pos hn0];refine kW ?_;exact aR (DQ (q:=(cs0,abN,3)) (show (3:Int)≠0 by decide) ⟨⟨_,rfl,rfl⟩,trivial⟩)
   ·have hn0: ¬nm=⟨#[]⟩:=gB4 hb
    clear hb;rw [if_neg hn0];refine kW ?_;exact aR (LM rfl r ⟨⟨_,rfl,rfl⟩,kBx⟩)
theorem zK {v:V} (i:v.size≤1000000) (key:ByteArray):AC Tryz.prog 22 [(vA (v)),.str key] (.tup [(vA ((mvK key v))),.bool (bh key v.m).isSome]):=by
 have h:=Ia v key (by omega);unfold mvK;cases g:bh key v.m<;>(rw [g] at h;exact h)
theorem IH (v:V) (p:v.size≤1000000) (T:(mvK kNm v).s.size≤65536) (U:(mvK pv v).s.size≤65536):AC Tryz.prog 51 [(vA (v))] (.bool (!jQ v)):=by
 have g:=zK p kNm;have i:=zK p pv;have hB:=xw (mvK kNm v).s (by omega);unfold jQ;generalize mvK kNm v=x at*;generalize mvK pv v=y at*
 have C:IntKind.i64.wrap ((x.s.size:Int)+(y.s.size:Int))=((x.s.size+y.s.size:Nat):Int):=by
  rw [aD (by omega) (by omega)];omega
 have I:(!(!decide (x.kind=3)|| !decide (y.kind=3)|| !cK x.s||decide (y.s=⟨#[]⟩)||decide (256<x.s.size+y.s.size)))=((((decide (x.kind=3)&&decide (y.kind=3))&&cK x.s)&&decide ((y.s.size:Int)>0))&&decide (IntKind.i64.wrap ((x.s.size:Int)+(y.s.size:Int))≤256)):=by
  rw [C]
  have J:decide ((y.s.size:Int)>0)= !decide (y.s=⟨#[]⟩):=by
   rw [Bool.eq_iff_iff,decide_eq_true_iff,Bool.not_eq_true',decide_eq_false_iff_not];constructor
   ·intro h P
    rw [P] at h;cases h
   ·intro h
    rcases Nat.eq_zero_or_pos y.s.size with r|r
    ·exact absurd (ByteArray.ext (Array.eq_empty_of_size_eq_zero r)) h
    ·omega
  have R:decide ((((x.s.size+y.s.size:Nat):Int))≤256)= !decide (256<x.s.size+y.s.size):=by
   rw [Bool.eq_iff_iff,decide_eq_true_iff,Bool.not_eq_true',decide_eq_false_iff_not];omega
  rw [J,R];cases decide (x.kind=3)<;>cases decide (y.kind=3)<;>cases cK x.s<;>cases decide (y.s=⟨#[]⟩)<;>rfl
 rw [I];refine kE Tryz.func51 sK sL fun E hE=> ?_
 refine kW ?_;refine kP [.v (.tup [(vA (x)),.bool (bh kNm v.m).isSome])] ?_ ?_
 ·((repeat' apply aI)<;>first|exact kD|(intro j;refine ⟨?_,kG⟩;(repeat' apply aI)<;>first|exact kD|skip)|skip)
  all_goals exact g
 refine kW ?_;refine kP [.v (.tup [(vA (y)),.bool (bh pv v.m).isSome])] ?_ ?_
 ·((repeat' apply aI)<;>first|exact kD|(intro j;refine ⟨?_,kG⟩;(repeat' apply aI)<;>first|exact kD|skip)|skip)
  all_goals exact i
 refine kW ?_;refine kQ [.v (.bool (cK x.s))] ?_;refine kW ?_;refine aR ⟨_,rfl,?_⟩;rfl
theorem kB0 {p:Prop} (h:p:=by first|exact trivial|exact ⟨kJ,trivial⟩):p:=h
theorem E0 {n:ByteArray} (h:cA n=true):tmB n=eE n teN:=by
 have p:n≠teN:=fun e=>by
  subst e;exact absurd h (by decide+kernel)
 unfold tmB eE;by_cases C:(10:Nat)<n.size
 ·rw [decide_eq_true (show (n.size:Int)>10 by omega),Bool.true_and]
  have i:decide (teN.size≤n.size)=true:=decide_eq_true (show 10≤n.size by omega)
  first
   |(rw [i,Bool.true_and];rfl)
   |(show _=(decide (teN.size≤n.size)&&_);rw [i,Bool.true_and];rfl)
 ·rw [decide_eq_false (show¬(n.size:Int)>10 by omega),Bool.false_and]
  symm;rw [Bool.eq_false_iff];intro r;obtain ⟨j,g⟩:=Bool.and_eq_true_iff.1 r;have j:10≤n.size:=gB3 j;have g:n.extract 0 10=teN:=gB3 g
  have hn:n.extract 0 10=n:=by
   rw [show (10:Nat)=n.size by omega,ByteArray.extract_zero_size]
  rw [hn] at g;exact p g
def wJ (l:List Fl) (x:Nat×CS×Bool×Option DF):Fr×St:=(ax [(6,.bool x.2.2.1),(7,mC 1900101 x.2.2.2),(26,.lst .any 2 (aq l)),(27,.int .i64 (aq l).length),(28,.int .i64 x.1)],⟨ah (bxF (mS 1900101 x.2.2.2)),fun _=>0⟩)
theorem Gj:cK ⟨#[]⟩=false:=by decide+kernel
abbrev cIm (_:DF):List Nat:= [1900101]
set_option maxHeartbeats 8000000 in
theorem J2 (l:List Fl) (hl:l.length≤4398046511103) (hz:l.length≤32→ ∀p∈l,p.1.size≤1000000):AC Tryz.prog 16 [.lst .any 2 (aq l)] (.tup [.str (gK l).2.1,.int .i64 (gK l).2.2]):=by
 have hF:=DM l hl hz;by_cases hz0:(aw l).2.2≠0
 ·have hq:gK l=(cs0,(aw l).2):=by unfold gK;rw [if_pos hz0]
  rw [hq];refine kE Tryz.func16 iR iS fun E hE=> ?_
  refine kW ?_;refine kQ [.v (.tup [.str (aw l).2.1,.int .i64 (aw l).2.2])] ?_;refine kW ?_;refine kC (fun hb=> ?_) fun hb=> ?_
  ·clear hb
   refine kW ?_;refine aR ⟨_,rfl,?_⟩;rfl
  ·exact absurd hb (by simpa using hz0)
 have hz1:(aw l).2.2=0:=by omega
 obtain ⟨hl32,T⟩:=oy hz1;obtain ⟨h32,hnd,hnm,I,_⟩:=me hz1;have hS:=BE l (by omega)
 have hnm2: ∀f∈(aw l).1,cA f.1=true:=fun f hf=>by
  rw [I] at hf;exact (hnm f ((gp l).mem_iff.1 hf)).1
 rw [←I] at hS
 have hq:gK l=if (cs0.all (aw l).1).2.2≠0 then cs0.all (aw l).1 else if (cs0.all (aw l).1).1.nm=⟨#[]⟩ then (cs0,abN,3) else cs0.all (aw l).1:=by
  unfold gK;rw [if_neg hz0]
 rw [hq];clear hq I hnm hnd;generalize aw l=fp at*;obtain ⟨R,nm',e'⟩:=fp;dsimp only at hz0 hz1 hl32 T hF hS hnm2⊢;subst hz1;have hll:=ak R;refine kE Tryz.func16 iR iS fun E hE=> ?_
 refine kW ?_;refine kQ [.v (.tup [.str nm',.int .i64 0])] ?_;refine kW ?_;refine kCf ?_;refine kW ?_;refine kQ [.v (.lst .any 2 (aq R))] ?_;refine kW ?_;refine aJ (wJ R) (fun x=>x.1≤R.length∧cs0.all R=x.2.1.all (R.drop x.1)∧x.2.1.At x.1∧okO x.2.1 x.2.2.2∧x.2.2.1= !decide (x.2.1.nm=⟨#[]⟩)) (fun x=>R.length-x.1) (0,cs0,false,none) ⟨gB8 _,rfl,⟨fun p hp=>(by cases hp),.nil,gB8 _⟩,⟨rfl,rfl⟩,rfl⟩ (wN (row:=fun _=>0) (L:= [(6,.bool false),(7,.raw (.map none)),(26,.lst .any 2 (aq R)),(27,.int .i64 (aq R).length),(28,.int .i64 0)]) (BL:= []) ⟨kI,kI,kI,kI,kI,trivial⟩ trivial rfl rfl trivial) fun ⟨k,c,hv,o⟩ hI=> ?_
 obtain ⟨hk,i,hat,J,U⟩:=hI;obtain ⟨nm,ver,v,ts,d⟩:=c;dsimp only at hk i hat J U;rcases o with _|d0
 all_goals
  show AK _ _ _ _ (ax _) _;refine kW ?_;refine kC (fun hb=> ?_) fun hb=> ?_
  ·have hlt:k<R.length:=by simpa [ak] using hb
   clear hb;obtain ⟨⟨n,t⟩,hg⟩: ∃x,R[k]? =some x:=⟨_,gA1 hlt⟩
   have hft:t.size≤140737488355328:=gB7 (T (n,t) (gA2 hg)) (by omega);have hnn:=hnm2 (n,t) (gA2 hg)
   have hns:n.size≤140737488355328:=by
    unfold cA at hnn;have:n.size≤256:=gB3 (Bool.and_eq_true_iff.1 hnn).2;omega
   rw [ju hg,CS.all] at i;have j:=hat.step (n,t);generalize g:CS.step _ (n,t)=q at i j;obtain ⟨c1,e1⟩:=q;dsimp only at i j;unfold CS.step at g;dsimp only at g;have hP:=tm t;obtain ⟨hpg,hpz⟩:=og t;refine kW ?_;refine kP [.c [.str n,.str t]] ?_ ?_
   ·((repeat' apply aI)<;>first|exact kD|(intro hgd;refine ⟨?_,kG⟩;(repeat' apply aI)<;>first|exact kD|skip)|skip)
    all_goals exact bY hg
   refine kW ?_;refine kC (fun hb=> ?_) fun hb=> ?_
   ·have hn:n=abN:=gB3 hb
    clear hb;rw [if_pos hn] at g;unfold fi at g;generalize bi t=P at*;obtain ⟨u,e⟩:=P;dsimp only at g hP hpg hpz;have hH:=IH u (by omega) (pw hpg hpz kNm) (pw hpg hpz pv);refine kW ?_;refine kQ [.v (.tup [(vA (u)),.int .i64 e])] ?_;refine kW ?_;refine kC (fun hb=> ?_) fun hb=> ?_
    ·have r:e≠0:=by simpa using hb
     clear hb;rw [if_pos r] at g;cases g;rw [if_pos r] at i;rw [i,if_pos r];refine kW ?_;refine aR ⟨_,rfl,?_⟩;rfl
    have r: ¬e≠0:=by simpa using hb
    clear hb;rw [if_neg r] at g;refine kW ?_;refine kQ [.v (.bool (!jQ u))] ?_;cases C:jQ u with
    |true=>
     rw [if_pos C] at g;cases g;rw [if_pos (show (25:Int)≠0 by decide)] at i;rw [i,if_pos (show (25:Int)≠0 by decide)];refine kW ?_;refine kCt ?_;refine kW ?_;refine aR ⟨_,rfl,?_⟩;rfl
    |false=>
     rw [if_neg (by rw [C];decide)] at g;cases g;rw [if_neg (show¬(0:Int)≠0 by decide)] at i
     have hnz:(mvK kNm u).s≠⟨#[]⟩:=fun h=>by
      unfold jQ at C;rw [h,Gj] at C;simp at C
     refine kW ?_;refine kCf ?_;refine kW ?_;refine AK.lp ⟨(k+1,⟨(mvK kNm u).s,(mvK pv u).s,v,ts,d⟩,true,?_),⟨hlt,i,j,?_,by rw [decide_eq_false hnz];rfl⟩,?_,by dsimp only;omega⟩
     ·first|exact some d0|exact none
     ·exact J
     ·exact wN ⟨kI,kI,kI,kI,kU,trivial⟩ kB0 rfl rfl kPn
   have hn1: ¬n=abN:=gB4 hb;rw [if_neg hn1] at g;clear hb;refine kW ?_;refine kC (fun hb=> ?_) fun hb=> ?_
   ·have hn:n=vaN:=gB3 hb
    clear hb;rw [if_pos hn] at g;unfold qP at g;generalize bi t=P at*;obtain ⟨u,e⟩:=P;dsimp only at g hP hpg hpz;refine kW ?_;refine kQ [.v (.tup [(vA (u)),.int .i64 e])] ?_;refine kW ?_;refine kC (fun hb=> ?_) fun hb=> ?_
    ·have r:e≠0:=by simpa using hb
     clear hb;rw [if_pos r] at g;cases g;rw [if_pos r] at i;rw [i,if_pos r];refine kW ?_;refine aR ⟨_,rfl,?_⟩;rfl
    have r: ¬e≠0:=by simpa using hb
    clear hb;rw [if_neg r] at g;refine kW ?_;refine kQ [] ?_;refine kC (fun hb=> ?_) fun hb=> ?_
    ·have hb2:u.kind≠5∧u.kind≠0:=by
      have h1:=Bool.and_eq_true_iff.1 hb;exact ⟨by simpa using h1.1,by simpa using h1.2⟩
     clear hb;rw [if_neg hb2.2,if_pos hb2.1] at g;cases g;rw [if_pos (show (8:Int)≠0 by decide)] at i;rw [i,if_pos (show (8:Int)≠0 by decide)];refine kW ?_;refine aR ⟨_,rfl,?_⟩;rfl
    ·have hb2:u.kind=5∨u.kind=0:=by
      by_cases h5:u.kind=5
      ·exact .inl h5
      ·by_cases h0:u.kind=0
       ·exact .inr h0
       ·have h1:((u.kind:Int))≠5:=by omega
        have h2:((u.kind:Int))≠0:=by omega
        simp [h5,h0] at hb
     clear hb
     have hst2: ∃v2,((⟨nm,ver,v2,ts,d⟩:CS),(0:Int))=(c1,e1):=by
      rcases hb2 with h5|h0
      ·rw [if_neg (by omega),if_neg (by omega)] at g
       exact ⟨_,g⟩
      ·rw [if_pos h0] at g
       exact ⟨_,g⟩
     clear g;obtain ⟨v2,g⟩:=hst2;cases g;rw [if_neg (show¬(0:Int)≠0 by decide)] at i;refine kW ?_;refine AK.lp ⟨(k+1,⟨nm,ver,v2,ts,d⟩,hv,?_),⟨hlt,i,j,?_,U⟩,?_,by dsimp only;omega⟩
     ·first|exact some d0|exact none
     ·exact J
     ·exact wN ⟨kI,kI,kI,kI,kU,trivial⟩ kB0 rfl rfl kPn
   have hn2: ¬n=vaN:=gB4 hb;rw [if_neg hn2,←E0 hnn] at g;clear hb;have hT:=vS n hns;refine kW ?_;refine kQ [.v (.bool (tmB n))] ?_;refine kW ?_;refine kC (fun hb=> ?_) fun hb=> ?_
   ·rw [if_pos hb] at g
    clear hb;have hPt:AC Tryz.prog 25 [.str t] (.tup [.lst .any 16 (aU (bL t.data.toList).1),.int .i64 (bL t.data.toList).2]):=EW t.data.toList hft;have hnmm:=j6 t.data.toList;have hln:=vR t.data.toList;unfold lN at g;generalize bL t.data.toList=p at*;obtain ⟨nd,e⟩:=p;dsimp only at hPt hnmm hln g;have hC:=yd (by first|exact some d0|exact none) nd (by omega) (fun n hn=>gB7 (hnmm n hn) (by omega)) (by rw [J.get];exact hat.sz) (by rw [J.get];exact hat.nd);rw [J.get] at hC;dsimp only at hC;unfold clS clR at hC;refine kW ?_;refine kQ [.v (.tup [.lst .any 16 (aU nd),.int .i64 e])] ?_;refine kW ?_;refine kC (fun hb=> ?_) fun hb=> ?_
    ·have r:e=0:=by simpa using hb
     clear hb;rw [if_neg (fun h=>h r)] at g;rcases hco:fu d nd with _|d'
     ·rw [hco] at g hC
      dsimp only at g hC;cases g;rw [if_pos (show (13:Int)≠0 by decide)] at i;rw [i,if_pos (show (13:Int)≠0 by decide)];have hC:=hC.ren Cf pK tw;refine kW ?_;refine kQ [.s (by first|exact cIm d0|exact []) [] (.tup [.raw (.map none),.int .i64 13])] ?_;refine kW ?_;refine kCt ?_;refine kW ?_;refine aR ⟨_,rfl,?_⟩;rfl
     ·rw [hco] at g hC
      dsimp only at g hC;cases g;rw [if_neg (show¬(0:Int)≠0 by decide)] at i;have hC:=hC.ren Cf pK tw;refine kW ?_;refine kQ [.s (by first|exact cIm d0|exact []) [(1900102,[mcA (aY d')])] (.tup [.np 1900102 0,.int .i64 0])] ?_;refine kW ?_;refine kCf ?_;refine kW ?_;exact AK.lp ⟨(k+1,⟨nm,ver,v,ts++ [((n,t),nd)],d'⟩,hv,some d'),⟨hlt,i,j,⟨by simp,rfl⟩,U⟩,Weak.trn (Weak.ren _ 1900102 1900101 rfl) (wN ⟨kI,kI,kI,kI,kU,trivial⟩ kB0 rfl rfl kPn),by dsimp only;omega⟩
    ·have r:e≠0:=by simpa using hb
     clear hb;rw [if_pos r] at g;cases g;rw [if_pos r] at i;rw [i,if_pos r];refine kW ?_;refine kC (fun hb=> ?_) fun hb=> ?_
     ·clear hb
      refine kW ?_;refine aR ⟨_,rfl,?_⟩;rfl
     ·exact absurd hb (by simpa using r)
   ·rw [if_neg (by rw [hb];decide)] at g
    cases g;rw [if_neg (show¬(0:Int)≠0 by decide)] at i;refine kW ?_;refine AK.lp ⟨(k+1,⟨nm,ver,v,ts,d⟩,hv,?_),⟨hlt,i,j,?_,U⟩,?_,by dsimp only;omega⟩
    ·first|exact some d0|exact none
    ·exact J
    ·exact wN ⟨kI,kI,kI,kI,kU,trivial⟩ kB0 rfl rfl kPn
  ·have hge:k=R.length:=by
    have: ¬k<R.length:=by simpa [ak] using hb
    omega
   clear hb;rw [gB6 (by omega),CS.all] at i;rw [i,if_neg (show¬(0:Int)≠0 by decide)];dsimp only;refine AK.exit rfl ?_;rw [U];refine kW ?_;by_cases hn0:nm=⟨#[]⟩
   ·rw [if_pos hn0,decide_eq_true hn0]
    refine kCt ?_;refine kW ?_;refine aR ⟨_,rfl,?_⟩;rfl
   ·rw [if_neg hn0,decide_eq_false hn0]
    refine kCf ?_;refine kW ?_;refine aR ⟨_,rfl,?_⟩;rfl
def lwS (s:V×List Fl) (f:Fl):V×List Fl:=
 (if f.1=vaN∧(bi f.2).1.kind=5 then (bi f.2).1 else s.1,if tmB f.1 then s.2++ [f] else s.2)
theorem J3 {c:CS} {f:Fl} (h:f.1≠abN):(c.step f).1.nm=c.nm:=by
 unfold CS.step;rw [if_neg h];split
 ·rfl
 ·split
  ·split
   ·rfl
   ·rfl
  ·rfl
theorem II: ∀(l:List Fl) (c:CS),(∀f∈l,f.1≠abN)→(c.all l).1.nm=c.nm
 | [],c,_=>rfl
 |f::l,c,h=>by
  rw [CS.all];split
  ·rfl
  ·rw [II l _ fun g hg=>h g (List.mem_cons_of_mem _ hg)]
   exact J3 (h f List.mem_cons_self)
theorem LN:tmB abN=false:=by decide+kernel
theorem Ks:tmB vaN=false:=by decide+kernel
theorem LO:vaN≠abN:=by decide+kernel
theorem J4 {c:CS} {f:Fl} (hn:cA f.1=true) (h:(c.step f).2=0):((c.step f).1.v,(c.step f).1.ts.map Prod.fst)=lwS (c.v,c.ts.map Prod.fst) f:=by
 obtain ⟨n,t⟩:=f;unfold lwS;dsimp only;unfold CS.step at h⊢;dsimp only at h⊢;by_cases r:n=abN
 ·subst r
  rw [if_pos rfl,LN,if_neg (fun e=>LO e.1.symm)];rfl
 ·rw [if_neg r] at h⊢
  by_cases j:n=vaN
  ·subst j
   rw [if_pos rfl] at h⊢;rw [Ks];unfold qP at h⊢;split at h
   ·rename_i g;exact absurd h g
   ·split at h
    ·rename_i g i
     rw [if_neg g,if_pos i,if_neg (fun e=>by rw [i] at e;exact absurd e.2 (by decide))];rfl
    ·split at h
     ·cases h
     ·rename_i g i C
      rw [if_neg g,if_neg i,if_neg C,if_pos ⟨rfl,by omega⟩];rfl
  ·rw [if_neg j] at h⊢
   rw [if_neg (show¬(n=vaN∧(bi t).1.kind=5) from fun e=>j e.1),E0 hn];by_cases g:eE n teN=true
   ·rw [if_pos g] at h
    rw [if_pos g,if_pos g];rcases p:lN c.d t with ⟨_|x,e⟩
    ·rw [p] at h
     have:=ye (d:=c.d) (s:=t) (by rw [p]);rw [p] at this;exact absurd h this
    ·show (c.v,(c.ts++ [((n,t),x.1)]).map Prod.fst)=_
     rw [List.map_append];rfl
   ·rw [if_neg g,if_neg g]
theorem Ci: ∀(l:List Fl) (c:CS),(∀f∈l,cA f.1=true)→(c.all l).2.2=0→l.foldl lwS (c.v,c.ts.map Prod.fst)=((c.all l).1.v,(c.all l).1.ts.map Prod.fst)
 | [],c,_,_=>rfl
 |f::l,c,hn,h=>by
  rw [CS.all] at h⊢;split at h
  ·rename_i i;exact absurd h i
  ·rename_i i
   rw [if_neg i,List.foldl_cons,←J4 (hn f List.mem_cons_self) (by omega)];exact Ci l _ (fun g hg=>hn g (List.mem_cons_of_mem _ hg)) h
theorem J5 {c:CS} {f:Fl} (h:f.1=abN) (g:(c.step f).2=0):(c.step f).1.nm=(mvK kNm (bi f.2).1).s:=by
 unfold CS.step at g⊢;rw [if_pos h] at g⊢;dsimp only at g⊢;unfold fi at g⊢;split at g
 ·rename_i i;exact absurd g i
 ·split at g
  ·cases g
  ·rename_i i j
   rw [if_neg i,if_neg j]
theorem IJ: ∀(l:List Fl) (c:CS),(l.map (·.1)).Nodup→(c.all l).2.2=0→ ∀f∈l,f.1=abN→(mvK kNm (bi f.2).1).s=(c.all l).1.nm
 | [],c,_,_,f,i,_=>by cases i
 |g::l,c,j,h,f,i,p=>by
  rw [CS.all] at h⊢;rw [List.map_cons,List.nodup_cons] at j;split at h
  ·rename_i r;exact absurd h r
  ·rename_i r
   rw [if_neg r];rcases gB2 i with rfl|i
   ·rw [II l _ fun g hg e=>j.1 (List.mem_map.2 ⟨g,hg,e.trans p.symm⟩),J5 p (by omega)]
   ·exact IJ l _ j.2 h f i p
end Go.Proofs.YtbgflifmanjpjaaGreatDoor
