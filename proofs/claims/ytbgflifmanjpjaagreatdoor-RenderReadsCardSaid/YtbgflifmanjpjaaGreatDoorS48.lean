/- Part 48. -/
import Derived.Test.YtbgflifmanjpjaaGreatDoorS47
set_option linter.unusedSimpArgs false
set_option linter.unusedVariables false
namespace Go.Proofs.YtbgflifmanjpjaaGreatDoor
section
open Go.RowKit
structure CS.At (c:CS) (k:Nat):Prop where
 sz:SzD c.d
 nd:(c.d.map Prod.fst).Nodup
 lt:c.ts.length≤k
theorem Im {d:DF} {s:ByteArray} (h:(pa d s).1=none):(pa d s).2≠0:=by
 unfold pa at h⊢;split
 ·assumption
 ·rename_i g
  rw [if_neg g] at h;cases i:gn d (cy s.data.toList).1 with
  |none=>show (13:Int)≠0;decide
  |some d' =>rw [i] at h;cases h
theorem CS.At.step {c:CS} {k:Nat} (h:c.At k) (f:Fl):(c.step f).1.At (k+1):=by
 unfold CS.step;split
 ·exact ⟨h.sz,h.nd,Nat.le_succ_of_le h.lt⟩
 ·split
  ·exact ⟨h.sz,h.nd,Nat.le_succ_of_le h.lt⟩
  ·split
   ·rcases i:pa c.d f.2 with ⟨_|x,e⟩
    ·exact ⟨h.sz,h.nd,Nat.le_succ_of_le h.lt⟩
    ·have j:(pa c.d f.2).1=some x:=by rw [i]
     obtain ⟨_,_,g,_⟩:=zp j;exact ⟨Bc _ _ _ h.sz (fun n hn=>gB7 (qj _ n hn) (by omega)) g,Bb _ _ _ h.nd g,by show (c.ts++_).length≤_;rw [gA5];exact Nat.succ_le_succ h.lt⟩
   ·exact ⟨h.sz,h.nd,Nat.le_succ_of_le h.lt⟩
theorem Fw {l:List Fl} (h:(bp l).2.2=0):(bp l).1.length≤32∧ ∀f∈(bp l).1,f.2.size≤65536:=by
 obtain ⟨g,_,i,j,_⟩:=ze h;rw [j];exact ⟨by rw [zd];exact g,fun f p=>(i f ((wR l).mem_iff.1 p)).2⟩
def okO (c:CS):Option DF→Prop
 |none=>c.ts= []∧c.d= []
 |some d=>c.ts≠ []∧d=c.d
theorem okO.get {c:CS} {o:Option DF} (h:okO c o):o.getD []=c.d:=by
 cases o with
 |none=>exact h.2.symm
 |some d=>exact h.2
def In (i:Nat):Nat:=swY 2000000 23 (swY 2900001 1900101 i)
def Io (i:Nat):Nat:=swY 2000000 23 (swY 2900001 1900101 (swY 1900101 1900102 i))
theorem DH (i j:Nat) (h:In i=In j):i=j:=bA _ _ (bA _ _ h)
theorem DI (i j:Nat) (h:Io i=Io j):i=j:=bA _ _ (bA _ _ (bA _ _ h))
theorem GC (i:Nat):kd (In i)=kd i:=by unfold In;rw [bY (by rfl),bY (by rfl)]
theorem GD (i:Nat):kd (Io i)=kd i:=by unfold Io;rw [bY (by rfl),bY (by rfl),bY (by rfl)]
abbrev cIn (_:DF):List Nat:= [23,1900101]
def cZ (k:Nat) (c:CS) (o:Option DF):List (Nat×List AV):=(23,chU c.nm c.ver c.v c.ts (mC k o))::mS k o
def nJ (l:List Fl) (x:Nat×CS×Option DF):Fr×St:=(ar [(7,.int .i64 0),(8,.ptr 23 0),(24,.lst .any 2 (aS l)),(25,.int .i64 (aS l).length),(26,.int .i64 x.1)],⟨ag (bxF (cZ 1900101 x.2.1 x.2.2)),fun _=>0⟩)
def nK (i:CS) (g:Int):Option (Option DF)→Prop
 |none=>g≠0
 |some o=>g=0∧okO i o
def nFr (l:List Fl) (k:Nat) (g:Int):Option (Option DF)→Fr
 |none=>ar [(7,.int .i64 g),(10,.ptr 10 0)]
 |some _=>ar [(7,.int .i64 0),(8,.ptr 23 0),(10,.ptr 10 0),(24,.lst .any 2 (aS l)),(25,.int .i64 (aS l).length),(26,.int .i64 k)]
def nSt (n t:ByteArray) (g:CS):Option (Option DF)→St
 |none=>⟨ag [(10,[.str n,.str t],false)],fun _=>0⟩
 |some o=>⟨ag ((10,[.str n,.str t],false)::bxF (cZ 1900101 g o)),fun _=>0⟩
def nwO (c:CS):Option DF:=match c.ts with
 | []=>none
 |_::_=>some c.d
theorem okO.eq {c:CS} {o:Option DF} (h:okO c o):nwO c=o:=by
 obtain ⟨nm,ver,v,ts,d⟩:=c;cases o with
 |none=>
  obtain ⟨g,_⟩:=h;dsimp only at g;subst g;rfl
 |some d' =>
  obtain ⟨g,i⟩:=h;dsimp only at g i;subst i;cases ts with
  |nil=>exact absurd rfl g
  |cons=>rfl
def nwS (q:CS×ByteArray×Int):List (Nat×List AV):=if q.2.2≠0 then [] else cZ 1900101 q.1 (nwO q.1)
def nwR (q:CS×ByteArray×Int):AV:=if q.2.2≠0 then .tup [.raw (.pointer none),.str q.2.1,.int .i64 q.2.2] else .tup [.np 23 0,.str ⟨#[]⟩,.int .i64 0]
theorem Fx {res:List ARes} {q:CS×ByteArray×Int} (g:q.2.2≠0) {f:Fr} {s:St} (h:RQK res qKs [] (.tup [.raw (.pointer none),.str q.2.1,.int .i64 q.2.2]) .ret f s):RQK res qKs (nwS q) (nwR q) .ret f s:=by
 unfold nwS nwR;rw [if_pos g,if_pos g];exact h
theorem N2 {res:List ARes} {q:CS×ByteArray×Int} {o:Option DF} (i:q.2.2=0) (g:okO q.1 o) {f:Fr} {s:St} (h:RQK res qKs (cZ 1900101 q.1 o) (.tup [.np 23 0,.str ⟨#[]⟩,.int .i64 0]) .ret f s):RQK res qKs (nwS q) (nwR q) .ret f s:=by
 unfold nwS nwR;rw [if_neg (by omega),if_neg (by omega),g.eq];exact h
theorem kPn {p:Prop} (h:p:=by first|exact trivial|exact ⟨rfl,trivial⟩|exact ⟨rfl,rfl,trivial⟩):p:=h
set_option maxHeartbeats 8000000 in
theorem KD (l:List Fl) (hl:l.length≤4398046511103) (hz:l.length≤32→ ∀p∈l,p.1.size≤1000000):MTK Tryz.prog 10 [] [] [.lst .any 2 (aS l)] qKs (nwS (Fs l)) (nwR (Fs l)):=by
 have hF:=LS l hl hz;have hM:AC Tryz.prog 36 [.lst .any 7 []] ((vA ((bP [])))):=fc [] (by decide+kernel);refine MTK.enter Tryz.func10 xn xp (by rfl) (by rfl) fun E hE=> ?_
 show AK _ _ _ [.c me] _ _;rw [me];by_cases P:(bp l).2.2≠0
 ·have hq:Fs l=(cs0,(bp l).2):=by unfold Fs;rw [if_pos P]
  rw [hq];refine kW ?_;refine kQ [.v (.tup [.lst .any 2 (aS (bp l).1),.str (bp l).2.1,.int .i64 (bp l).2.2])] ?_;refine kW ?_;refine kC (fun hb=> ?_) fun hb=> ?_
  ·clear hb
   refine kW ?_;exact aR (Fx P ⟨⟨_,rfl,rfl⟩,trivial⟩)
  ·exact absurd hb (by simpa using P)
 have hz1:(bp l).2.2=0:=by omega
 obtain ⟨hl32,R⟩:=Fw hz1
 have hq:Fs l=if (cs0.all (bp l).1).2.2≠0 then cs0.all (bp l).1 else if (cs0.all (bp l).1).1.nm=⟨#[]⟩ then (cs0,abN,3) else cs0.all (bp l).1:=by
  unfold Fs;rw [if_neg P]
 rw [hq];clear hq;generalize hfp:bp l=fp at*;obtain ⟨J,nm',e'⟩:=fp;dsimp only at P hz1 hl32 R hF⊢;subst hz1;have hll:=bn J;refine kW ?_;refine kQ [.v (.tup [.lst .any 2 (aS J),.str nm',.int .i64 0])] ?_;refine kW ?_;refine kCf ?_;refine kW ?_;refine kQ [.v ((vA ((bP []))))] ?_;refine kW ?_;refine aJ (nJ J) (fun x=>x.1≤J.length∧cs0.all J=x.2.1.all (J.drop x.1)∧x.2.1.At x.1∧okO x.2.1 x.2.2) (fun x=>J.length-x.1) (0,cs0,none) ⟨gB8 _,rfl,⟨fun p hp=>(by cases hp),.nil,gB8 _⟩,rfl,rfl⟩ (Weak.introZ (L:= [(7,.int .i64 0),(8,.ptr 23 0),(24,.lst .any 2 (aS J)),(25,.int .i64 (aS J).length),(26,.int .i64 0)]) (BL:=bxF (cZ 1900101 cs0 none)) ⟨kI,kI,kI,kI,kI,trivial⟩ ⟨⟨_,rfl,.refl _,.refl _,.refl _,.refl _,.refl _,.refl _,.refl _,.refl _,.own _ _ _ _,.own _ _ _ _,.refl _,trivial⟩,trivial⟩ rfl kPn) fun ⟨k,c,o⟩ hI=> ?_
 obtain ⟨hk,g,T,r⟩:=hI;obtain ⟨nm,ver,v,ts,d⟩:=c;dsimp only at hk g T r;rcases o with _|C
 all_goals
  show AK _ _ _ _ (ar _) _;refine kW ?_;refine kC (fun hb=> ?_) fun hb=> ?_
  ·have hlt:k<J.length:=by simpa [bn] using hb
   clear hb;obtain ⟨⟨n,t⟩,hg⟩: ∃x,J[k]? =some x:=⟨_,gA1 hlt⟩
   have hft:t.size≤140737488355328:=gB7 (R (n,t) (gA2 hg)) (by omega);rw [pC hg,CS.all] at g;have U:=T.step (n,t);generalize j:CS.step _ (n,t)=q at g U;obtain ⟨c1,e1⟩:=q;dsimp only at g U;refine kW ?_;refine kP [.c [.str n,.str t]] ?_ ?_
   ·((repeat' apply aI)<;>first|exact kD|(intro hgd;refine ⟨?_,kG⟩;(repeat' apply aI)<;>first|exact kD|skip)|skip)
    all_goals exact wQ hg
   refine kS ?_;refine AK.cutK (nK c1 e1) (nFr J k e1) (nSt n t c1) ?_ fun i hi=> ?_
   ·unfold CS.step at j
    dsimp only at j;refine kW ?_;refine kC (fun hb=> ?_) fun hb=> ?_
    ·have hn:n=abN:=gB3 hb
     clear hb;rw [if_pos hn] at j;cases j;have hH0:=Np nm ver t v ts (by first|exact some C|exact none);have hH:MTK Tryz.prog 40 qKs (cZ 1900101 ⟨nm,ver,v,ts,d⟩ (by first|exact some C|exact none)) [.np 23 0,.str t] qKs (cZ 1900101 ⟨(gU nm ver t).1,(gU nm ver t).2.1,v,ts,d⟩ (by first|exact some C|exact none)) (.int .i64 (gU nm ver t).2.2):=hH0.ren In DH GC;refine kW ?_;refine kQ [.k (by first|exact cIn C|exact [23]) qKs (cZ 1900101 ⟨(gU nm ver t).1,(gU nm ver t).2.1,v,ts,d⟩ (by first|exact some C|exact none)) qKs (.int .i64 (gU nm ver t).2.2)] ?_;refine kW ?_;by_cases I:(gU nm ver t).2.2=0
     ·refine cE ⟨some ?_,⟨I,?_⟩,?_⟩
      ·first|exact some C|exact none
      ·exact r
      ·exact Weak.introZ ⟨⟨_,rfl,.of_eq (congrArg (AV.int .i64) I)⟩,kI,kI,kI,kI,kI,trivial⟩ ⟨kJ,kBl⟩ rfl kPn
     ·exact cE ⟨none,I,Weak.introZ ⟨kI,kI,trivial⟩ ⟨kJ,trivial⟩ rfl trivial⟩
    have hn1: ¬n=abN:=gB4 hb;rw [if_neg hn1] at j;clear hb;refine kW ?_;refine kC (fun hb=> ?_) fun hb=> ?_
    ·have hn:n=vaN:=gB3 hb
     clear hb;rw [if_pos hn] at j;cases j;have hH0:=N0 nm ver t v ts (by first|exact some C|exact none);have hH:MTK Tryz.prog 41 qKs (cZ 1900101 ⟨nm,ver,v,ts,d⟩ (by first|exact some C|exact none)) [.np 23 0,.str t] qKs (cZ 1900101 ⟨nm,ver,(wW v t).1,ts,d⟩ (by first|exact some C|exact none)) (.int .i64 (wW v t).2):=hH0.ren In DH GC;refine kW ?_;refine kQ [.k (by first|exact cIn C|exact [23]) qKs (cZ 1900101 ⟨nm,ver,(wW v t).1,ts,d⟩ (by first|exact some C|exact none)) qKs (.int .i64 (wW v t).2)] ?_;refine kW ?_;by_cases I:(wW v t).2=0
     ·refine cE ⟨some ?_,⟨I,?_⟩,?_⟩
      ·first|exact some C|exact none
      ·exact r
      ·exact Weak.introZ ⟨⟨_,rfl,.of_eq (congrArg (AV.int .i64) I)⟩,kI,kI,kI,kI,kI,trivial⟩ ⟨kJ,kBl⟩ rfl kPn
     ·exact cE ⟨none,I,Weak.introZ ⟨kI,kI,trivial⟩ ⟨kJ,trivial⟩ rfl trivial⟩
    have hn2: ¬n=vaN:=gB4 hb;rw [if_neg hn2] at j;clear hb;have hPx:=sB n teN;refine kW ?_;refine kQ [.v (.bool (gc n teN))] ?_;refine kW ?_;refine kC (fun hb=> ?_) fun hb=> ?_
    ·rw [if_pos hb] at j
     clear hb;have hT:=N1 nm ver v ts (by have:=T.lt;dsimp only at this;omega) (by first|exact some C|exact none) (by rw [r.get];exact T.sz) (by rw [r.get];exact T.nd) (n,t) hft;rw [r.get] at hT;dsimp only at hT;rcases hP:pa d t with ⟨_|x,e⟩
     ·rw [hP] at j hT
      cases j;have I:e1≠0:=by have:=Im (d:=d) (s:=t) (by rw [hP]);rw [hP] at this;exact this
      have hT:=hT.ren Io DI GD;refine kW ?_;refine kQ [.k (by first|exact cIn C|exact [23]) qKs [(23,[.str nm,.str ver,.int .i64 v.kind,.bool v.b,.int .i64 v.n,.str v.s,.lst .any 6 (aL v.l),.lst .any 7 (am v.m),.lst .any 2 (rowsT2 ts),.lst .any 1 (pb ts),mX (by first|exact some C|exact none)])] [] (.int .i64 e1)] ?_;refine kW ?_;exact cE ⟨none,I,Weak.introZ ⟨kI,kI,trivial⟩ ⟨kJ,trivial⟩ rfl trivial⟩
     ·rw [hP] at j hT
      cases j;have I:e=0:=by have:=(zp (d:=d) (s:=t) (x:=x) (by rw [hP])).2.2.2;rw [hP] at this;exact this
      subst I;have hT:=hT.ren Io DI GD;refine kW ?_;refine kQ [.k (by first|exact cIn C|exact [23]) qKs (cZ 1900102 ⟨nm,ver,v,ts++ [((n,t),x.1)],x.2⟩ (some x.2)) qKs (.int .i64 0)] ?_;refine kW ?_;exact cE ⟨some (some x.2),⟨rfl,by simp [CS.add],rfl⟩,Weak.trn (Weak.ren _ 1900102 1900101 rfl) (Weak.introZ ⟨kI,kI,kI,kI,kI,kI,trivial⟩ ⟨kJ,kBl⟩ rfl kPn)⟩
    ·rw [if_neg (by rw [hb];decide)] at j
     cases j;refine kW ?_;refine cE ⟨some ?_,⟨rfl,?_⟩,?_⟩
     ·first|exact some C|exact none
     ·exact r
     ·exact Weak.introZ ⟨kI,kI,kI,kI,kI,kI,trivial⟩ ⟨kJ,kBl⟩ rfl kPn
   rcases i with _|o1
   ·have I:e1≠0:=hi
    rw [if_pos I] at g;show AK _ _ _ _ (ar _) _;refine kW ?_;refine kC (fun hb=> ?_) fun hb=> ?_
    ·clear hb
     refine kW ?_;rw [g,if_pos I];exact aR (Fx I ⟨⟨_,rfl,rfl⟩,trivial⟩)
    ·exact absurd hb (by simpa using I)
   ·obtain ⟨rfl,ho1⟩:=hi
    rw [if_neg (show¬(0:Int)≠0 by decide)] at g;show AK _ _ _ _ (ar _) _;rcases o1 with _|d1
    all_goals
     refine kW ?_;refine kCf ?_;refine kW ?_;exact AK.lp ⟨(k+1,c1,(by first|exact some d1|exact none)),⟨hlt,g,U,ho1⟩,Weak.introZ ⟨kI,kI,kI,kI,kU,trivial⟩ kBl rfl kPn,by dsimp only;omega⟩
  ·have hge:k=J.length:=by
    have: ¬k<J.length:=by simpa [bn] using hb
    omega
   clear hb;rw [gB6 (by omega),CS.all] at g;rw [g,if_neg (show¬(0:Int)≠0 by decide)];refine AK.exit rfl ?_;refine kW ?_;refine kC (fun hb=> ?_) fun hb=> ?_
   ·have hn0:nm=⟨#[]⟩:=gB3 hb
    clear hb;rw [if_pos hn0];refine kW ?_;exact aR (Fx (q:=(cs0,abN,3)) (show (3:Int)≠0 by decide) ⟨⟨_,rfl,rfl⟩,trivial⟩)
   ·have hn0: ¬nm=⟨#[]⟩:=gB4 hb
    clear hb;rw [if_neg hn0];refine kW ?_;exact aR (N2 rfl r ⟨⟨_,rfl,rfl⟩,kBx⟩)
abbrev awA:ByteArray:=⟨#[67,104,97,114,116,46,121,97,109,108]⟩
abbrev awB:ByteArray:=⟨#[110,97,109,101,58,32,119,101,98,10,118,101,114,115,105,111,110,58,32,118,49,10]⟩
abbrev awT:ByteArray:=⟨#[116,101,109,112,108,97,116,101,115,47,97,46,121,97,109,108]⟩
abbrev awWeb:ByteArray:=⟨#[119,101,98]⟩
abbrev awV1:ByteArray:=⟨#[118,49]⟩
theorem MTK.full1 {P:Program} {f:FuncId} {ks ks' :List Nat} {S S' :List (Nat×List AV)} {e:Nat} {l:List (List AV)} {r:AV} (h:MTK P f ks S [.lst .any e l] ks' S' r):MTK P f ks S [.lst .full e l] ks' S' r:=
 ⟨h.cb,fun σ w B R vs p C I J T U h7 g=>h.run σ w B R vs p C I J T U h7 ⟨g.1,fun j v a hv i=>by
  rcases j with _|j
  ·cases i
   exact (show Rel1 σ v (.lst .full e l) from g.2 0 v _ hv rfl).slice_any
  ·cases i⟩⟩
def GE (i:Nat):Nat:=swY 23 1000001 i
theorem Ip (i j:Nat) (h:GE i=GE j):i=j:=bA _ _ h
theorem KE (i:Nat):kd (GE i)=kd i:=bY (by rfl) i
def GF (i:Nat):Nat:=swY 2000000 1000001 i
theorem Iq (i j:Nat) (h:GF i=GF j):i=j:=bA _ _ h
theorem KF (i:Nat):kd (GF i)=kd i:=bY (by rfl) i
end
section
set_option maxRecDepth 100000
set_option maxHeartbeats 20000000
def db:List Nat:= []
noncomputable def DJ:ACode:=bK Tryz.prog db Tryz.f65
noncomputable def DK:AFn:=⟨1,63,DJ,[.cell 2 9 true,.tmp 3]⟩
theorem mf:aq Tryz.prog db Tryz.f65=some DK:=kk
theorem mg:ab Tryz.prog 65=true:=kk
noncomputable def r7:ACode:=bK Tryz.prog db Tryz.f30
noncomputable def r8:AFn:=⟨1,42,r7,[.tmp 2,.tmp 3]⟩
theorem nD:aq Tryz.prog db Tryz.f30=some r8:=kk
theorem nE:ab Tryz.prog 30=true:=kk
noncomputable def ul:ACode:=bK Tryz.prog db Tryz.f31
noncomputable def um:AFn:=⟨1,43,ul,[.tmp 2,.tmp 3]⟩
theorem pc:aq Tryz.prog db Tryz.f31=some um:=kk
theorem pd:ab Tryz.prog 31=true:=kk
noncomputable def Fy:ACode:=bK Tryz.prog db Tryz.f66
noncomputable def Fz:AFn:=⟨1,62,Fy,[.cell 2 9 true,.tmp 3]⟩
theorem n8:aq Tryz.prog db Tryz.f66=some Fz:=kk
theorem n9:ab Tryz.prog 66=true:=kk
noncomputable def Bd:ACode:=bK Tryz.prog db Tryz.f32
noncomputable def Be:AFn:=⟨2,42,Bd,[.tmp 4]⟩
theorem uo:aq Tryz.prog db Tryz.f32=some Be:=kk
theorem uq:ab Tryz.prog 32=true:=kk
noncomputable def yt:ACode:=bK Tryz.prog db Tryz.f117
noncomputable def yu:AFn:=⟨1,16,yt,[.tmp 2]⟩
theorem r9:aq Tryz.prog db Tryz.f117=some yu:=kk
theorem sa:ab Tryz.prog 117=true:=kk
noncomputable def Bf:ACode:=bK Tryz.prog db Tryz.f176
noncomputable def Bg:AFn:=⟨1,21,Bf,[.tmp 2]⟩
theorem ur:aq Tryz.prog db Tryz.f176=some Bg:=kk
theorem ut:ab Tryz.prog 176=true:=kk
end
section
open Go.RowKit
theorem mh (s:ByteArray) (C:s.size≤140737488355328):AC Tryz.prog 176 [.str s] (.bool (aC s)):=by
 have J:=Hf s C;refine kE Tryz.func176 ur ut fun E P=> ?_
 refine kW ?_;refine aJ (fun k:Nat=>(ar [(0,.str s),(3,.int .i64 k)],⟨ag [],fun _=>0⟩)) (fun k=>k≤s.size∧ ∀j,(h:j<s.size)→j<k→s[j].toNat≠47) (fun k=>s.size-k) 0 ⟨by omega,fun j h I=>by omega⟩ (wO ⟨kI,kI,trivial⟩ trivial rfl rfl) fun k ⟨R,i⟩=> ?_
 refine kW ?_;refine kC (fun hb=> ?_) fun hb=> ?_
 ·have g:k<s.size:=by simpa using hb
  refine kW ?_;refine kQ [] ?_;rw [show s.data.getD (k:Int).toNat 0=s[k] from io g];refine kC (fun hb=> ?_) fun hb=> ?_
  ·have r:s[k].toNat=47:=by have h:((s[k].toNat:Nat):Int)=47:=by simpa using hb
                            omega
   refine kW ?_;refine aR ⟨_,rfl,?_⟩;rw [aC,Lv g r];rfl
  ·have r:s[k].toNat≠47:=by have h: ¬((s[k].toNat:Nat):Int)=47:=by simpa using hb
                            omega
   refine kW ?_
   exact AK.lp ⟨k+1,⟨by omega,fun j h I=>by
    by_cases e:j=k
    ·subst e;exact r
    ·exact i j h (by omega)⟩,wO ⟨kI,kU,trivial⟩ trivial rfl rfl,by omega⟩
 ·have g:s.size≤k:=by simpa using hb
  have p:AG s=true:=decide_eq_true fun j h=>i j h (by omega)
  refine AK.exit rfl ?_;refine kW ?_;refine kQ [.v (.bool (dF s))] ?_;refine kW ?_;refine aR ⟨_,rfl,?_⟩;refine congrArg AV.bool ?_;rw [aC,p];cases dF s<;>simp<;>omega
theorem FA (a b c:ByteArray) (g:a.size≤140737488355328) (hb:b.size≤140737488355328) (i:c.size≤140737488355328):AC Tryz.prog 117 [.agg [.str a,.str b,.str c]] (.bool (aC a&&aC b&&aC c)):=by
 have j:=mh a g;have p:=mh b hb;have r:=mh c i;refine kE Tryz.func117 r9 sa fun E C=> ?_
 refine kW ?_;refine kQ [.v (.bool (aC a)),.v (.bool (aC b)),.v (.bool (aC c))] ?_;refine kW ?_;refine aR ⟨_,rfl,?_⟩;cases aC a<;>cases aC b<;>rfl
end
end Go.Proofs.YtbgflifmanjpjaaGreatDoor
