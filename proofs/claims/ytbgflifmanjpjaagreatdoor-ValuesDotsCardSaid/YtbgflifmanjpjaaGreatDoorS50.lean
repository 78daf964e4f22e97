/- Part 50. -/
import Derived.Test.YtbgflifmanjpjaaGreatDoorS49
set_option linter.unusedSimpArgs false
set_option linter.unusedVariables false
namespace Go.Proofs.YtbgflifmanjpjaaGreatDoor
open Go.RowKit
theorem ib (ρ:Nat→Nat) (c g j m:Nat) (nm ver:ByteArray) (v:V) (ts:TS) (i:CI):my ρ (chK c g j m nm ver v ts i)=chK (ρ c) (ρ g) (ρ j) (ρ m) nm ver v ts i:=by
 unfold my;simp only [List.map_cons,List.map_nil,(al ts).ren,(am ts).ren];rfl
def It (i:Nat):Nat:=swY 2000000 23 (swY 1000001 1000101 (swY 1000002 1000102 i))
def Cm (i:Nat):Nat:=swY 2000000 23 (swY 2000001 1000101 (swY 2000002 1000102 (swY 1000001 1000103 (swY 1000002 1000104 (swY 2900001 1900101 (swY 1900101 1900102 i))))))
def Cn (i:Nat):Nat:=swY 2000000 23 (swY 2000001 1000103 (swY 2000002 1000104 (swY 1000001 1000101 (swY 1000002 1000102 (swY 2900001 1900102 i)))))
theorem Iu (i j:Nat) (h:It i=It j):i=j:=aV _ _ (aV _ _ (aV _ _ h))
theorem pw (i j:Nat) (h:Cm i=Cm j):i=j:=aV _ _ (aV _ _ (aV _ _ (aV _ _ (aV _ _ (aV _ _ (aV _ _ h))))))
theorem px (i j:Nat) (h:Cn i=Cn j):i=j:=aV _ _ (aV _ _ (aV _ _ (aV _ _ (aV _ _ (aV _ _ h)))))
theorem J1 (i:Nat):aW (It i)=aW i:=by
 unfold It;rw [bm (by rfl),bm (by rfl),bm (by rfl)]
theorem tC (i:Nat):aW (Cm i)=aW i:=by
 unfold Cm;rw [bm (by rfl),bm (by rfl),bm (by rfl),bm (by rfl),bm (by rfl),bm (by rfl),bm (by rfl)]
theorem tD (i:Nat):aW (Cn i)=aW i:=by
 unfold Cn;rw [bm (by rfl),bm (by rfl),bm (by rfl),bm (by rfl),bm (by rfl),bm (by rfl)]
theorem v8 {ids:List Nat} {c g j m:Nat} {nm ver:ByteArray} {v:V} {ts:TS} {i:CI} {e:Int} {r:Nat→Option (List AV×Bool)} (p:(ids.all (fun i=>Nat.ble 1000000 i||bW i [c,g,j,m])&&([.sli g 0 0 0,.sli j 0 0 0,.np m 0]:List AV).all (AV.inS [c,g,j,m]))=true) (C:aX r (ap ids [(c,[]),(g,[]),(j,[]),(m,[])])=true):
  (okS ids (chK c g j m nm ver v ts i) (.int .i64 e)&&aX r (ap ids (chK c g j m nm ver v ts i)))=true:=by
 rw [gA9] at p⊢;obtain ⟨p,I⟩:=p;refine ⟨?_,C⟩;have hd:aL (chK c g j m nm ver v ts i)= [c,g,j,m]:=rfl;unfold okS;rw [hd,gA9,gA9];refine ⟨⟨p,List.all_eq_true.2 fun y hy=> ?_⟩,rfl⟩;rcases gB2 hy with rfl|hy
 ·exact I
 rcases gB2 hy with rfl|hy
 ·exact (al ts).inS _ _
 rcases gB2 hy with rfl|hy
 ·exact (am ts).inS _ _
 rw [gB1 hy];rfl
theorem rZ (c g j m:Nat) (nm ver:ByteArray) (v:V) (ts:TS) (i:CI):([(c,chKc g j m nm ver v ts i),(g,(rowB (rowsT2 ts) i.1.2).map AV.told),(j,(rowB (bQ ts) i.2.1.2).map AV.told),(m,[mcA (aRz i.2.2)])]:List (Nat×List AV))=chK c g j m nm ver v ts i:=by
 rw [(al ts).told,(am ts).told]
abbrev NF:=Option (Bool×CI)
def nB (c:CS):NF→List (Nat×List AV×Bool)
 |none=> [(23,chC c.nm c.ver c.v,false)]
 |some (false,i)=> [(23,chKc 1000101 1000102 1900101 c.nm c.ver c.v c.ts i,false),(1000101,rowB (rowsT2 c.ts) i.1.2,false),(1000102,rowB (bQ c.ts) i.2.1.2,false),(1900101,[mcA (aRz i.2.2)],false)]
 |some (true,i)=> [(23,chKc 1000103 1000104 1900102 c.nm c.ver c.v c.ts i,false),(1000103,rowB (rowsT2 c.ts) i.1.2,false),(1000104,rowB (bQ c.ts) i.2.1.2,false),(1900102,[mcA (aRz i.2.2)],false)]
def chF (c:CS):NF→List (Nat×List AV)
 |none=>chS 23 c.nm c.ver c.v
 |some (false,i)=>chK 23 1000101 1000102 1900101 c.nm c.ver c.v c.ts i
 |some (true,i)=>chK 23 1000103 1000104 1900102 c.nm c.ver c.v c.ts i
def wa (c:CS):NF→Prop
 |none=>c.ts= []∧c.d= []
 |some (_,i)=>xn c.ts c.d i
def nK (i:CS) (g:Int):Option (CS×NF)→Prop
 |none=>g≠0
 |some (c',j)=>g=0∧i=c' ∧wa c' j
def nFr (l:List Fl) (k:Nat) (g:Int):Option (CS×NF)→Fr
 |none=>au [(7,.int .i64 g),(10,.ptr 10 0)]
 |some _=>au [(7,.int .i64 0),(8,.ptr 23 0),(10,.ptr 10 0),(24,.lst .any 2 (aH l)),(25,.int .i64 (aH l).length),(26,.int .i64 k)]
def nSt (n t:ByteArray):Option (CS×NF)→St
 |none=>⟨ag [(10,[.str n,.str t],false)],fun _=>0⟩
 |some (c',g)=>⟨ag ((10,[.str n,.str t],false)::nB c' g),fun _=>0⟩
def nJ (l:List Fl) (x:Nat×CS×NF):Fr×St:=(au [(7,.int .i64 0),(8,.ptr 23 0),(24,.lst .any 2 (aH l)),(25,.int .i64 (aH l).length),(26,.int .i64 x.1)],⟨ag (nB x.2.1 x.2.2),fun _=>0⟩)
structure CS.At (c:CS) (k:Nat):Prop where
 sz:SzD c.d
 nd:(c.d.map Prod.fst).Nodup
 lt:c.ts.length≤k
theorem rl {d:DF} {s:ByteArray} (h:(fj d s).1=none):(fj d s).2≠0:=by
 unfold fj at h⊢;split
 ·assumption
 ·rename_i g
  rw [if_neg g] at h;cases i:dH d (bU s.data.toList).1 with
  |none=>show (13:Int)≠0;decide
  |some d' =>rw [i] at h;cases h
theorem CS.At.step {c:CS} {k:Nat} (h:c.At k) (f:Fl):(c.step f).1.At (k+1):=by
 unfold CS.step;split
 ·exact ⟨h.sz,h.nd,Nat.le_succ_of_le h.lt⟩
 ·split
  ·exact ⟨h.sz,h.nd,Nat.le_succ_of_le h.lt⟩
  ·split
   ·rcases i:fj c.d f.2 with ⟨_|x,e⟩
    ·exact ⟨h.sz,h.nd,Nat.le_succ_of_le h.lt⟩
    ·have j:(fj c.d f.2).1=some x:=by rw [i]
     obtain ⟨_,_,g,_⟩:=rg j;exact ⟨Aa _ _ _ h.sz (fun n hn=>gB7 (eC _ n hn) (by omega)) g,z8 _ _ _ h.nd g,by show (c.ts++_).length≤_;rw [gA5];exact Nat.succ_le_succ h.lt⟩
   ·exact ⟨h.sz,h.nd,Nat.le_succ_of_le h.lt⟩
def nwS (q:CS×ByteArray×Int) (g:NF):List (Nat×List AV):=if q.2.2≠0 then [] else chF q.1 g
def nwR (q:CS×ByteArray×Int):AV:=if q.2.2≠0 then .tup [.raw (.pointer none),.str q.2.1,.int .i64 q.2.2] else .tup [.np 23 0,.str ⟨#[]⟩,.int .i64 0]
theorem oh {res:List ARes} {q:CS×ByteArray×Int} (g:NF) (i:q.2.2≠0) {f:Fr} {s:St} (h:yO AV.argN res [] (.tup [.raw (.pointer none),.str q.2.1,.int .i64 q.2.2]) .ret f s):RQX res (fun g=>q.2.2=0→wa q.1 g) (nwS q) (fun _=>nwR q) .ret f s:=
 ⟨g,fun h=>absurd h i,by unfold nwS nwR;rw [if_pos i,if_pos i];exact h⟩
theorem Iv {res:List ARes} {q:CS×ByteArray×Int} (g:NF) (i:q.2.2=0) (hn:wa q.1 g) {f:Fr} {s:St} (h:yO AV.argN res (chF q.1 g) (.tup [.np 23 0,.str ⟨#[]⟩,.int .i64 0]) .ret f s):RQX res (fun g=>q.2.2=0→wa q.1 g) (nwS q) (fun _=>nwR q) .ret f s:=
 ⟨g,fun _=>hn,by unfold nwS nwR;rw [if_neg (by omega),if_neg (by omega)];exact h⟩
def swC:ACode→ACode
 | .seq _ (.seq _ (.seq _ (.seq _ (.seq (.seq _ (.block _ (.loop (.seq _ (.seq _ (.seq (.block _ (.seq _ (.seq (.block _ (.seq _ c)) _))) _)))))) _))))=>c
 |c=>c
set_option maxHeartbeats 4000000 in
theorem L0 {E:Env} (l:List Fl) (k:Nat) (n t:ByteArray) (J:t.size≤140737488355328) (nm ver:ByteArray) (v:V) (U:CS) (I:Int) (g:CS.step ⟨nm,ver,v,[],[]⟩ (n,t)=(U,I)):
  AK Tryz.prog E (CQK (nK U I) (nFr l k I) (nSt n t)) [.c (swC b9)] (au [(7,.int .i64 0),(8,.ptr 23 0),(10,.ptr 10 0),(24,.lst .any 2 (aH l)),(25,.int .i64 (aH l).length),(26,.int .i64 k),(30,.bool (decide (n=abN)))]) ⟨ag ((10,[.str n,.str t],false)::nB ⟨nm,ver,v,[],[]⟩ (none)),fun _=>0⟩:=by
 have p:wa (⟨nm,ver,v,[],[]⟩:CS) none:=⟨rfl,rfl⟩
 rw [b9];simp only [swC];refine kC (fun hb=> ?_) fun hb=> ?_
 ·have hn:n=abN:=gB3 hb
  clear hb;unfold CS.step at g;rw [if_pos hn] at g;cases g;have j:=(K8 nm ver t v).ren Cc vY Ab;refine AK.regs ?_;refine SK.all [.s [23] (chS 23 (bT nm ver t).1 (bT nm ver t).2.1 v) (.int .i64 (bT nm ver t).2.2)] ?_ ?_
  ·(repeat' apply aI)<;>first|exact j|exact kD
  by_cases r:(bT nm ver t).2.2=0
  ·exact cE ⟨some (⟨(bT nm ver t).1,(bT nm ver t).2.1,v,[],[]⟩,none),⟨r,rfl,p⟩,wN ⟨⟨_,rfl,.of_eq (congrArg (AV.int .i64) r)⟩,kI,kI,kI,kI,kI,trivial⟩ ⟨kJ,kJ,trivial⟩ rfl rfl trivial⟩
  ·exact cE ⟨none,r,wN ⟨kI,kI,trivial⟩ ⟨kJ,trivial⟩ rfl rfl trivial⟩
 have C: ¬n=abN:=gB4 hb;clear hb;refine kW ?_;refine kC (fun hb=> ?_) fun hb=> ?_
 ·have hn:n=vaN:=gB3 hb
  clear hb;unfold CS.step at g;rw [if_neg C,if_pos hn] at g;cases g;have j:=(LC nm ver t v).ren Cc vY Ab;refine AK.regs ?_;refine SK.all [.s [23] (chS 23 nm ver (ik v t).1) (.int .i64 (ik v t).2)] ?_ ?_
  ·(repeat' apply aI)<;>first|exact j|exact kD
  by_cases r:(ik v t).2=0
  ·exact cE ⟨some (⟨nm,ver,(ik v t).1,[],[]⟩,none),⟨r,rfl,p⟩,wN ⟨⟨_,rfl,.of_eq (congrArg (AV.int .i64) r)⟩,kI,kI,kI,kI,kI,trivial⟩ ⟨kJ,kJ,trivial⟩ rfl rfl trivial⟩
  ·exact cE ⟨none,r,wN ⟨kI,kI,trivial⟩ ⟨kJ,trivial⟩ rfl rfl trivial⟩
 have P: ¬n=vaN:=gB4 hb;clear hb;refine kW ?_;refine kP [.v (.bool (dQ n teN))] ?_ ?_
 ·((repeat' apply aI)<;>first|exact kD|(intro R;refine ⟨?_,kG⟩;(repeat' apply aI)<;>first|exact kD|skip)|skip)
  all_goals first|exact lN n teN|skip
 refine kW ?_;refine kC (fun hb=> ?_) fun hb=> ?_
 ·unfold CS.step at g
  rw [if_neg C,if_neg P,if_pos hb] at g;clear hb;rcases hq:fj [] t with ⟨_|x,e⟩
  ·have hx:(fj [] t).1=none:=by rw [hq]
   have T:=rl hx;have j:=(Is nm ver v (n,t) J hx).ren Cc vY Ab;rw [hq] at g j T;have g:((⟨nm,ver,v,[],[]⟩:CS),e)=(U,I):=g;cases g;refine AK.regs ?_;refine SK.all [.s [23] (chS 23 nm ver v) (.int .i64 I)] ?_ ?_
   ·(repeat' apply aI)<;>first|exact j|exact kD
   exact cE ⟨none,T,wN ⟨kI,kI,trivial⟩ ⟨kJ,trivial⟩ rfl rfl trivial⟩
  ·have hx:(fj [] t).1=some x:=by rw [hq]
   have j:=(LM nm ver v (n,t) J x hx).ren It Iu J1;simp only [ib] at j;rw [hq] at g;have g:((⟨nm,ver,v,[]++ [((n,t),x.1)],x.2⟩:CS),(0:Int))=(U,I):=g;cases g;refine AK.regs ?_;refine SK.run 2 [] ?_ ?_
   ·((repeat' apply aI)<;>first|exact kD|(intro R;refine ⟨?_,kG⟩;(repeat' apply aI)<;>first|exact kD|skip)|skip)
   refine SK.callX (xn ([]++ [((n,t),x.1)]) x.2) (fun i=>chK 23 1000101 1000102 1900101 nm ver v ([]++ [((n,t),x.1)]) i) (fun _=> .int .i64 0) [23] j (fun i hi=>v8 (by rfl) (by rfl)) fun i hi=> ?_
   refine SK.all [] ?_ ?_
   ·((repeat' apply aI)<;>first|exact kD|(intro R;refine ⟨?_,kG⟩;(repeat' apply aI)<;>first|exact kD|skip)|skip)
   exact cE ⟨some (⟨nm,ver,v,[]++ [((n,t),x.1)],x.2⟩,some (false,i)),⟨rfl,rfl,hi⟩,wN ⟨kI,kI,kI,kI,kI,kI,trivial⟩ ⟨kJ,kJ,kJ,kJ,kJ,trivial⟩ rfl rfl ⟨(al _).noFrs _,(am _).noFrs _,rfl,trivial⟩⟩
 ·unfold CS.step at g
  rw [if_neg C,if_neg P,if_neg (by rw [hb];decide)] at g;clear hb;cases g;refine kW ?_;exact cE ⟨some (⟨nm,ver,v,[],[]⟩,none),⟨rfl,rfl,p⟩,wN ⟨kI,kI,kI,kI,kI,kI,trivial⟩ ⟨kJ,kJ,trivial⟩ rfl rfl trivial⟩
set_option maxHeartbeats 4000000 in
theorem L1 {E:Env} (l:List Fl) (k:Nat) (n t:ByteArray) (U:t.size≤140737488355328) (nm ver:ByteArray) (v:V) (ts:TS) (d:DF) (hts:ts.length<1000000) (hsz:SzD d) (hnd:(d.map Prod.fst).Nodup) (j C p I:Nat) (dm:DF) (J:xn ts d ((j,C),(p,I),dm)) (c1:CS) (T:Int) (g:CS.step ⟨nm,ver,v,ts,d⟩ (n,t)=(c1,T)):
  AK Tryz.prog E (CQK (nK c1 T) (nFr l k T) (nSt n t)) [.c (swC b9)] (au [(7,.int .i64 0),(8,.ptr 23 0),(10,.ptr 10 0),(24,.lst .any 2 (aH l)),(25,.int .i64 (aH l).length),(26,.int .i64 k),(30,.bool (decide (n=abN)))]) ⟨ag ((10,[.str n,.str t],false)::nB ⟨nm,ver,v,ts,d⟩ (some (false,((j,C),(p,I),dm)))),fun _=>0⟩:=by
 rw [b9];simp only [swC];refine kC (fun hb=> ?_) fun hb=> ?_
 ·have hn:n=abN:=gB3 hb
  clear hb;unfold CS.step at g;rw [if_pos hn] at g;cases g;have r:=(Iq nm ver t v ts ((j,C),(p,I),dm)).ren Cm pw tC;simp only [ib] at r;rw [←rZ] at r;refine AK.regs ?_;refine SK.all [.s [23,1000101,1000102,1900101] (chK 23 1000101 1000102 1900101 (bT nm ver t).1 (bT nm ver t).2.1 v ts ((j,C),(p,I),dm)) (.int .i64 (bT nm ver t).2.2)] ?_ ?_
  ·(repeat' apply aI)<;>first|exact r|exact v8 (by rfl) (by rfl)|exact kD
  by_cases P:(bT nm ver t).2.2=0
  ·exact cE ⟨some (⟨(bT nm ver t).1,(bT nm ver t).2.1,v,ts,d⟩,some (false,((j,C),(p,I),dm))),⟨P,rfl,J⟩,wN ⟨⟨_,rfl,.of_eq (congrArg (AV.int .i64) P)⟩,kI,kI,kI,kI,kI,trivial⟩ ⟨kJ,kJ,kJ,kJ,kJ,trivial⟩ rfl rfl ⟨(al ts).noFrs _,(am ts).noFrs _,rfl,trivial⟩⟩
  ·exact cE ⟨none,P,wN ⟨kI,kI,trivial⟩ ⟨kJ,trivial⟩ rfl rfl trivial⟩
 have R: ¬n=abN:=gB4 hb;clear hb;refine kW ?_;refine kC (fun hb=> ?_) fun hb=> ?_
 ·have hn:n=vaN:=gB3 hb
  clear hb;unfold CS.step at g;rw [if_neg R,if_pos hn] at g;cases g;have r:=(Kv nm ver t v ts ((j,C),(p,I),dm)).ren Cm pw tC;simp only [ib] at r;rw [←rZ] at r;refine AK.regs ?_;refine SK.all [.s [23,1000101,1000102,1900101] (chK 23 1000101 1000102 1900101 nm ver (ik v t).1 ts ((j,C),(p,I),dm)) (.int .i64 (ik v t).2)] ?_ ?_
  ·(repeat' apply aI)<;>first|exact r|exact v8 (by rfl) (by rfl)|exact kD
  by_cases P:(ik v t).2=0
  ·exact cE ⟨some (⟨nm,ver,(ik v t).1,ts,d⟩,some (false,((j,C),(p,I),dm))),⟨P,rfl,J⟩,wN ⟨⟨_,rfl,.of_eq (congrArg (AV.int .i64) P)⟩,kI,kI,kI,kI,kI,trivial⟩ ⟨kJ,kJ,kJ,kJ,kJ,trivial⟩ rfl rfl ⟨(al ts).noFrs _,(am ts).noFrs _,rfl,trivial⟩⟩
  ·exact cE ⟨none,P,wN ⟨kI,kI,trivial⟩ ⟨kJ,trivial⟩ rfl rfl trivial⟩
 have hn2: ¬n=vaN:=gB4 hb;clear hb;refine kW ?_;refine kP [.v (.bool (dQ n teN))] ?_ ?_
 ·((repeat' apply aI)<;>first|exact kD|(intro hgd;refine ⟨?_,kG⟩;(repeat' apply aI)<;>first|exact kD|skip)|skip)
  all_goals first|exact lN n teN|skip
 refine kW ?_;refine kC (fun hb=> ?_) fun hb=> ?_
 ·unfold CS.step at g
  rw [if_neg R,if_neg hn2,if_pos hb] at g;clear hb;rcases hq:fj d t with ⟨_|x,e⟩
  ·have hx:(fj d t).1=none:=by rw [hq]
   have hne:=rl hx;have r:=(EM nm ver v ts d hsz hnd ((j,C),(p,I),dm) J (n,t) U hx).ren Cm pw tC;rw [hq] at g r hne;have g:((⟨nm,ver,v,ts,d⟩:CS),e)=(c1,T):=g;cases g;simp only [ib] at r;rw [←rZ] at r;refine AK.regs ?_;refine SK.all [.s [23,1000101,1000102,1900101] ([(23,chT nm ver v)]) (.int .i64 T)] ?_ ?_
   ·(repeat' apply aI)<;>first|exact r|exact kD
   exact cE ⟨none,hne,wN ⟨kI,kI,trivial⟩ ⟨kJ,trivial⟩ rfl rfl trivial⟩
  ·have hx:(fj d t).1=some x:=by rw [hq]
   have r:=(Kw nm ver v ts (by omega) d hsz hnd ((j,C),(p,I),dm) J (n,t) U x hx).ren Cm pw tC;simp only [ib] at r;rw [←rZ] at r;rw [hq] at g;have g:((⟨nm,ver,v,ts++ [((n,t),x.1)],x.2⟩:CS),(0:Int))=(c1,T):=g;cases g;refine AK.regs ?_;refine SK.run 2 [] ?_ ?_
   ·((repeat' apply aI)<;>first|exact kD|(intro hgd;refine ⟨?_,kG⟩;(repeat' apply aI)<;>first|exact kD|skip)|skip)
   refine SK.callX (xn (ts++ [((n,t),x.1)]) x.2) (fun i=>chK 23 1000103 1000104 1900102 nm ver v (ts++ [((n,t),x.1)]) i) (fun _=> .int .i64 0) [23,1000101,1000102,1900101] r (fun i hi=>v8 (by rfl) (by rfl)) fun i hi=> ?_
   refine SK.all [] ?_ ?_
   ·((repeat' apply aI)<;>first|exact kD|(intro hgd;refine ⟨?_,kG⟩;(repeat' apply aI)<;>first|exact kD|skip)|skip)
   exact cE ⟨some (⟨nm,ver,v,ts++ [((n,t),x.1)],x.2⟩,some (true,i)),⟨rfl,rfl,hi⟩,wN ⟨kI,kI,kI,kI,kI,kI,trivial⟩ ⟨kJ,kJ,kJ,kJ,kJ,trivial⟩ rfl rfl ⟨(al _).noFrs _,(am _).noFrs _,rfl,trivial⟩⟩
 ·unfold CS.step at g
  rw [if_neg R,if_neg hn2,if_neg (by rw [hb];decide)] at g;clear hb;cases g;refine kW ?_;exact cE ⟨some (⟨nm,ver,v,ts,d⟩,some (false,((j,C),(p,I),dm))),⟨rfl,rfl,J⟩,wN ⟨kI,kI,kI,kI,kI,kI,trivial⟩ ⟨kJ,kJ,kJ,kJ,kJ,trivial⟩ rfl rfl ⟨(al ts).noFrs _,(am ts).noFrs _,rfl,trivial⟩⟩
set_option maxHeartbeats 4000000 in
theorem L2 {E:Env} (l:List Fl) (k:Nat) (n t:ByteArray) (U:t.size≤140737488355328) (nm ver:ByteArray) (v:V) (ts:TS) (d:DF) (hts:ts.length<1000000) (hsz:SzD d) (hnd:(d.map Prod.fst).Nodup) (j C p I:Nat) (dm:DF) (J:xn ts d ((j,C),(p,I),dm)) (c1:CS) (T:Int) (g:CS.step ⟨nm,ver,v,ts,d⟩ (n,t)=(c1,T)):
  AK Tryz.prog E (CQK (nK c1 T) (nFr l k T) (nSt n t)) [.c (swC b9)] (au [(7,.int .i64 0),(8,.ptr 23 0),(10,.ptr 10 0),(24,.lst .any 2 (aH l)),(25,.int .i64 (aH l).length),(26,.int .i64 k),(30,.bool (decide (n=abN)))]) ⟨ag ((10,[.str n,.str t],false)::nB ⟨nm,ver,v,ts,d⟩ (some (true,((j,C),(p,I),dm)))),fun _=>0⟩:=by
 rw [b9];simp only [swC];refine kC (fun hb=> ?_) fun hb=> ?_
 ·have hn:n=abN:=gB3 hb
  clear hb;unfold CS.step at g;rw [if_pos hn] at g;cases g;have r:=(Iq nm ver t v ts ((j,C),(p,I),dm)).ren Cn px tD;simp only [ib] at r;rw [←rZ] at r;refine AK.regs ?_;refine SK.all [.s [23,1000103,1000104,1900102] (chK 23 1000103 1000104 1900102 (bT nm ver t).1 (bT nm ver t).2.1 v ts ((j,C),(p,I),dm)) (.int .i64 (bT nm ver t).2.2)] ?_ ?_
  ·(repeat' apply aI)<;>first|exact r|exact v8 (by rfl) (by rfl)|exact kD
  by_cases P:(bT nm ver t).2.2=0
  ·exact cE ⟨some (⟨(bT nm ver t).1,(bT nm ver t).2.1,v,ts,d⟩,some (true,((j,C),(p,I),dm))),⟨P,rfl,J⟩,wN ⟨⟨_,rfl,.of_eq (congrArg (AV.int .i64) P)⟩,kI,kI,kI,kI,kI,trivial⟩ ⟨kJ,kJ,kJ,kJ,kJ,trivial⟩ rfl rfl ⟨(al ts).noFrs _,(am ts).noFrs _,rfl,trivial⟩⟩
  ·exact cE ⟨none,P,wN ⟨kI,kI,trivial⟩ ⟨kJ,trivial⟩ rfl rfl trivial⟩
 have R: ¬n=abN:=gB4 hb;clear hb;refine kW ?_;refine kC (fun hb=> ?_) fun hb=> ?_
 ·have hn:n=vaN:=gB3 hb
  clear hb;unfold CS.step at g;rw [if_neg R,if_pos hn] at g;cases g;have r:=(Kv nm ver t v ts ((j,C),(p,I),dm)).ren Cn px tD;simp only [ib] at r;rw [←rZ] at r;refine AK.regs ?_;refine SK.all [.s [23,1000103,1000104,1900102] (chK 23 1000103 1000104 1900102 nm ver (ik v t).1 ts ((j,C),(p,I),dm)) (.int .i64 (ik v t).2)] ?_ ?_
  ·(repeat' apply aI)<;>first|exact r|exact v8 (by rfl) (by rfl)|exact kD
  by_cases P:(ik v t).2=0
  ·exact cE ⟨some (⟨nm,ver,(ik v t).1,ts,d⟩,some (true,((j,C),(p,I),dm))),⟨P,rfl,J⟩,wN ⟨⟨_,rfl,.of_eq (congrArg (AV.int .i64) P)⟩,kI,kI,kI,kI,kI,trivial⟩ ⟨kJ,kJ,kJ,kJ,kJ,trivial⟩ rfl rfl ⟨(al ts).noFrs _,(am ts).noFrs _,rfl,trivial⟩⟩
  ·exact cE ⟨none,P,wN ⟨kI,kI,trivial⟩ ⟨kJ,trivial⟩ rfl rfl trivial⟩
 have hn2: ¬n=vaN:=gB4 hb;clear hb;refine kW ?_;refine kP [.v (.bool (dQ n teN))] ?_ ?_
 ·((repeat' apply aI)<;>first|exact kD|(intro hgd;refine ⟨?_,kG⟩;(repeat' apply aI)<;>first|exact kD|skip)|skip)
  all_goals first|exact lN n teN|skip
 refine kW ?_;refine kC (fun hb=> ?_) fun hb=> ?_
 ·unfold CS.step at g
  rw [if_neg R,if_neg hn2,if_pos hb] at g;clear hb;rcases hq:fj d t with ⟨_|x,e⟩
  ·have hx:(fj d t).1=none:=by rw [hq]
   have hne:=rl hx;have r:=(EM nm ver v ts d hsz hnd ((j,C),(p,I),dm) J (n,t) U hx).ren Cn px tD;rw [hq] at g r hne;have g:((⟨nm,ver,v,ts,d⟩:CS),e)=(c1,T):=g;cases g;simp only [ib] at r;rw [←rZ] at r;refine AK.regs ?_;refine SK.all [.s [23,1000103,1000104,1900102] ([(23,chT nm ver v)]) (.int .i64 T)] ?_ ?_
   ·(repeat' apply aI)<;>first|exact r|exact kD
   exact cE ⟨none,hne,wN ⟨kI,kI,trivial⟩ ⟨kJ,trivial⟩ rfl rfl trivial⟩
  ·have hx:(fj d t).1=some x:=by rw [hq]
   have r:=(Kw nm ver v ts (by omega) d hsz hnd ((j,C),(p,I),dm) J (n,t) U x hx).ren Cn px tD;simp only [ib] at r;rw [←rZ] at r;rw [hq] at g;have g:((⟨nm,ver,v,ts++ [((n,t),x.1)],x.2⟩:CS),(0:Int))=(c1,T):=g;cases g;refine AK.regs ?_;refine SK.run 2 [] ?_ ?_
   ·((repeat' apply aI)<;>first|exact kD|(intro hgd;refine ⟨?_,kG⟩;(repeat' apply aI)<;>first|exact kD|skip)|skip)
   refine SK.callX (xn (ts++ [((n,t),x.1)]) x.2) (fun i=>chK 23 1000101 1000102 1900101 nm ver v (ts++ [((n,t),x.1)]) i) (fun _=> .int .i64 0) [23,1000103,1000104,1900102] r (fun i hi=>v8 (by rfl) (by rfl)) fun i hi=> ?_
   refine SK.all [] ?_ ?_
   ·((repeat' apply aI)<;>first|exact kD|(intro hgd;refine ⟨?_,kG⟩;(repeat' apply aI)<;>first|exact kD|skip)|skip)
   exact cE ⟨some (⟨nm,ver,v,ts++ [((n,t),x.1)],x.2⟩,some (false,i)),⟨rfl,rfl,hi⟩,wN ⟨kI,kI,kI,kI,kI,kI,trivial⟩ ⟨kJ,kJ,kJ,kJ,kJ,trivial⟩ rfl rfl ⟨(al _).noFrs _,(am _).noFrs _,rfl,trivial⟩⟩
 ·unfold CS.step at g
  rw [if_neg R,if_neg hn2,if_neg (by rw [hb];decide)] at g;clear hb;cases g;refine kW ?_;exact cE ⟨some (⟨nm,ver,v,ts,d⟩,some (true,((j,C),(p,I),dm))),⟨rfl,rfl,J⟩,wN ⟨kI,kI,kI,kI,kI,kI,trivial⟩ ⟨kJ,kJ,kJ,kJ,kJ,trivial⟩ rfl rfl ⟨(al ts).noFrs _,(am ts).noFrs _,rfl,trivial⟩⟩
theorem D1 {l:List Fl} (h:(bj l).2.2=0):(bj l).1.length≤32∧ ∀f∈(bj l).1,f.2.size≤65536:=by
 obtain ⟨g,_,i,j,_⟩:=xX h;rw [j];exact ⟨by rw [xW];exact g,fun f p=>(i f ((vp l).mem_iff.1 p)).2⟩
set_option maxHeartbeats 8000000 in
theorem Co (l:List Fl) (hl:l.length≤4398046511103) (hz:l.length≤32→ ∀p∈l,p.1.size≤1000000):MSX Tryz.prog 10 [] [.lst .any 2 (aH l)] (fun nf=>(dY l).2.2=0→wa (dY l).1 nf) (nwS (dY l)) (fun _=>nwR (dY l)):=by
 have hF:=JE l hl hz;have hM:AC Tryz.prog 36 [.lst .any 7 []] ((vA ((br [])))):=cJ [] (by decide+kernel);refine MSX.enter Tryz.func10 v6 v7 (by rfl) (by rfl) fun E hE=> ?_
 show AK _ _ _ [.c b9] _ _;have hsw0:= @L0 E;have hswP:= @L1 E;have hswQ:= @L2 E;rw [b9] at hsw0 hswP hswQ⊢;simp only [swC] at hsw0 hswP hswQ;by_cases hz0:(bj l).2.2≠0
 ·have hq:dY l=(cs0,(bj l).2):=by unfold dY;rw [if_pos hz0]
  rw [hq];refine kW ?_;refine kQ [.v (.tup [.lst .any 2 (aH (bj l).1),.str (bj l).2.1,.int .i64 (bj l).2.2])] ?_;refine kW ?_;refine kC (fun hb=> ?_) fun hb=> ?_
  ·clear hb
   refine kW ?_;exact aR (oh none hz0 ⟨⟨_,rfl,rfl⟩,trivial⟩)
  ·exact absurd hb (by simpa using hz0)
 have hz1:(bj l).2.2=0:=by omega
 obtain ⟨hl32,I⟩:=D1 hz1
 have hq:dY l=if (cs0.all (bj l).1).2.2≠0 then cs0.all (bj l).1 else if (cs0.all (bj l).1).1.nm=⟨#[]⟩ then (cs0,abN,3) else cs0.all (bj l).1:=by
  unfold dY;rw [if_neg hz0]
 rw [hq];clear hq;generalize hfp:bj l=fp at*;obtain ⟨j,nm',e'⟩:=fp;dsimp only at hz0 hz1 hl32 I hF⊢;subst hz1;have hll:=aP j;refine kW ?_;refine kQ [.v (.tup [.lst .any 2 (aH j),.str nm',.int .i64 0])] ?_;refine kW ?_;refine kCf ?_;refine kW ?_;refine kQ [.v ((vA ((br []))))] ?_;refine kW ?_;refine aJ (nJ j) (fun x=>x.1≤j.length∧cs0.all j=x.2.1.all (j.drop x.1)∧x.2.1.At x.1∧wa x.2.1 x.2.2) (fun x=>j.length-x.1) (0,cs0,none) ⟨gB8 _,rfl,⟨fun p hp=>(by cases hp),.nil,gB8 _⟩,rfl,rfl⟩ (wN (L:= [(7,.int .i64 0),(8,.ptr 23 0),(24,.lst .any 2 (aH j)),(25,.int .i64 (aH j).length),(26,.int .i64 0)]) (BL:=nB cs0 none) ⟨kI,kI,kI,kI,kI,trivial⟩ ⟨kJ,trivial⟩ rfl rfl trivial) fun ⟨k,c,nf⟩ hI=> ?_
 obtain ⟨hk,g,C,J⟩:=hI;obtain ⟨nm,ver,v,ts,d⟩:=c;dsimp only at hk g C J;rcases nf with _|⟨_|_,⟨⟨U,mT⟩,⟨capN,mN⟩,dm⟩⟩
 ·obtain ⟨hts0,hd0⟩:=J
  dsimp only at hts0 hd0;subst hts0 hd0;have J:wa (⟨nm,ver,v,[],[]⟩:CS) none:=⟨rfl,rfl⟩
  show AK _ _ _ _ (au _) _;refine kW ?_;refine kC (fun hb=> ?_) fun hb=> ?_
  ·have P:k<j.length:=by simpa [aP] using hb
   clear hb;obtain ⟨⟨n,t⟩,hg⟩: ∃x,j[k]? =some x:=⟨_,gA1 P⟩
   have hft:t.size≤140737488355328:=gB7 (I (n,t) (gA2 hg)) (by omega);rw [dJ hg,CS.all] at g;have i:=C.step (n,t);generalize hst:CS.step _ (n,t)=q at g i;obtain ⟨c1,e1⟩:=q;dsimp only at g i;refine kW ?_;refine kP [.c [.str n,.str t]] ?_ ?_
   ·((repeat' apply aI)<;>first|exact kD|(intro hgd;refine ⟨?_,kG⟩;(repeat' apply aI)<;>first|exact kD|skip)|skip)
    all_goals exact jk hg
   refine kW ?_;refine AK.cutK (nK c1 e1) (nFr j k e1) (nSt n t) ?_ fun o ho=> ?_
   ·refine AK.weak ?_ (hsw0 j k n t hft nm ver v c1 e1 hst)
    exact wN ⟨kI,kI,kI,kI,kI,kI,kI,trivial⟩ ⟨kJ,kJ,trivial⟩ rfl rfl trivial
   rcases o with _|⟨c2,R⟩
   ·have he:e1≠0:=ho
    rw [if_pos he] at g;show AK _ _ _ _ (au _) _;refine kW ?_;refine kC (fun hb=> ?_) fun hb=> ?_
    ·clear hb
     refine kW ?_;rw [g,if_pos he];exact aR (oh none he ⟨⟨_,rfl,rfl⟩,trivial⟩)
    ·exact absurd hb (by simpa using he)
   ·obtain ⟨rfl,rfl,T⟩:=ho
    rw [if_neg (show¬(0:Int)≠0 by decide)] at g;show AK _ _ _ _ (au _) _;refine kW ?_;refine kCf ?_;refine kW ?_;refine AK.lp ⟨(k+1,c1,R),⟨P,g,i,T⟩,?_,by dsimp only;omega⟩;rcases R with _|⟨_|_,i2⟩
    ·exact wN ⟨kI,kI,kI,kI,kU,trivial⟩ ⟨kJ,trivial⟩ rfl rfl trivial
    ·exact wN ⟨kI,kI,kI,kI,kU,trivial⟩ ⟨kJ,kJ,kJ,kJ,trivial⟩ rfl rfl ⟨(al _).noFrs _,(am _).noFrs _,rfl,trivial⟩
    ·exact wN ⟨kI,kI,kI,kI,kU,trivial⟩ ⟨kJ,kJ,kJ,kJ,trivial⟩ rfl rfl ⟨(al _).noFrs _,(am _).noFrs _,rfl,trivial⟩
  ·have hge:k=j.length:=by
    have: ¬k<j.length:=by simpa [aP] using hb
    omega
   clear hb;rw [gB6 (by omega),CS.all] at g;rw [g,if_neg (show¬(0:Int)≠0 by decide)];refine AK.exit rfl ?_;refine kW ?_;refine kC (fun hb=> ?_) fun hb=> ?_
   ·have r:nm=⟨#[]⟩:=gB3 hb
    clear hb;rw [if_pos r];refine kW ?_;exact aR (oh (q:=(cs0,abN,3)) none (show (3:Int)≠0 by decide) ⟨⟨_,rfl,rfl⟩,trivial⟩)
   ·have r: ¬nm=⟨#[]⟩:=gB4 hb
    clear hb;rw [if_neg r];refine kW ?_;exact aR (Iv (none) rfl J ⟨⟨_,rfl,rfl⟩,⟨_,rfl,rfl⟩,trivial⟩)
 ·show AK _ _ _ _ (au _) _
  refine kW ?_;refine kC (fun hb=> ?_) fun hb=> ?_
  ·have P:k<j.length:=by simpa [aP] using hb
   clear hb;obtain ⟨⟨n,t⟩,hg⟩: ∃x,j[k]? =some x:=⟨_,gA1 P⟩
   have hft:t.size≤140737488355328:=gB7 (I (n,t) (gA2 hg)) (by omega);rw [dJ hg,CS.all] at g;have i:=C.step (n,t);generalize hst:CS.step _ (n,t)=q at g i;obtain ⟨c1,e1⟩:=q;dsimp only at g i;refine kW ?_;refine kP [.c [.str n,.str t]] ?_ ?_
   ·((repeat' apply aI)<;>first|exact kD|(intro hgd;refine ⟨?_,kG⟩;(repeat' apply aI)<;>first|exact kD|skip)|skip)
    all_goals exact jk hg
   refine kW ?_;refine AK.cutK (nK c1 e1) (nFr j k e1) (nSt n t) ?_ fun o ho=> ?_
   ·refine AK.weak ?_ (hswP j k n t hft nm ver v ts d (by have:=C.lt;dsimp only at this;omega) C.sz C.nd U mT capN mN dm J c1 e1 hst)
    exact wN ⟨kI,kI,kI,kI,kI,kI,kI,trivial⟩ ⟨kJ,kJ,kJ,kJ,kJ,trivial⟩ rfl rfl ⟨(al ts).noFrs _,(am ts).noFrs _,rfl,trivial⟩
   rcases o with _|⟨c2,R⟩
   ·have he:e1≠0:=ho
    rw [if_pos he] at g;show AK _ _ _ _ (au _) _;refine kW ?_;refine kC (fun hb=> ?_) fun hb=> ?_
    ·clear hb
     refine kW ?_;rw [g,if_pos he];exact aR (oh none he ⟨⟨_,rfl,rfl⟩,trivial⟩)
    ·exact absurd hb (by simpa using he)
   ·obtain ⟨rfl,rfl,T⟩:=ho
    rw [if_neg (show¬(0:Int)≠0 by decide)] at g;show AK _ _ _ _ (au _) _;refine kW ?_;refine kCf ?_;refine kW ?_;refine AK.lp ⟨(k+1,c1,R),⟨P,g,i,T⟩,?_,by dsimp only;omega⟩;rcases R with _|⟨_|_,i2⟩
    ·exact wN ⟨kI,kI,kI,kI,kU,trivial⟩ ⟨kJ,trivial⟩ rfl rfl trivial
    ·exact wN ⟨kI,kI,kI,kI,kU,trivial⟩ ⟨kJ,kJ,kJ,kJ,trivial⟩ rfl rfl ⟨(al _).noFrs _,(am _).noFrs _,rfl,trivial⟩
    ·exact wN ⟨kI,kI,kI,kI,kU,trivial⟩ ⟨kJ,kJ,kJ,kJ,trivial⟩ rfl rfl ⟨(al _).noFrs _,(am _).noFrs _,rfl,trivial⟩
  ·have hge:k=j.length:=by
    have: ¬k<j.length:=by simpa [aP] using hb
    omega
   clear hb;rw [gB6 (by omega),CS.all] at g;rw [g,if_neg (show¬(0:Int)≠0 by decide)];refine AK.exit rfl ?_;refine kW ?_;refine kC (fun hb=> ?_) fun hb=> ?_
   ·have r:nm=⟨#[]⟩:=gB3 hb
    clear hb;rw [if_pos r];refine kW ?_;exact aR (oh (q:=(cs0,abN,3)) none (show (3:Int)≠0 by decide) ⟨⟨_,rfl,rfl⟩,trivial⟩)
   ·have r: ¬nm=⟨#[]⟩:=gB4 hb
    clear hb;rw [if_neg r];refine kW ?_;exact aR (Iv (some (false,(U,mT),(capN,mN),dm)) rfl J ⟨⟨_,rfl,rfl⟩,⟨_,rfl,rfl⟩,⟨_,rfl,(al ts).told _⟩,⟨_,rfl,(am ts).told _⟩,⟨_,rfl,rfl⟩,trivial⟩)
 ·show AK _ _ _ _ (au _) _
  refine kW ?_;refine kC (fun hb=> ?_) fun hb=> ?_
  ·have P:k<j.length:=by simpa [aP] using hb
   clear hb;obtain ⟨⟨n,t⟩,hg⟩: ∃x,j[k]? =some x:=⟨_,gA1 P⟩
   have hft:t.size≤140737488355328:=gB7 (I (n,t) (gA2 hg)) (by omega);rw [dJ hg,CS.all] at g;have i:=C.step (n,t);generalize hst:CS.step _ (n,t)=q at g i;obtain ⟨c1,e1⟩:=q;dsimp only at g i;refine kW ?_;refine kP [.c [.str n,.str t]] ?_ ?_
   ·((repeat' apply aI)<;>first|exact kD|(intro hgd;refine ⟨?_,kG⟩;(repeat' apply aI)<;>first|exact kD|skip)|skip)
    all_goals exact jk hg
   refine kW ?_;refine AK.cutK (nK c1 e1) (nFr j k e1) (nSt n t) ?_ fun o ho=> ?_
   ·refine AK.weak ?_ (hswQ j k n t hft nm ver v ts d (by have:=C.lt;dsimp only at this;omega) C.sz C.nd U mT capN mN dm J c1 e1 hst)
    exact wN ⟨kI,kI,kI,kI,kI,kI,kI,trivial⟩ ⟨kJ,kJ,kJ,kJ,kJ,trivial⟩ rfl rfl ⟨(al ts).noFrs _,(am ts).noFrs _,rfl,trivial⟩
   rcases o with _|⟨c2,R⟩
   ·have he:e1≠0:=ho
    rw [if_pos he] at g;show AK _ _ _ _ (au _) _;refine kW ?_;refine kC (fun hb=> ?_) fun hb=> ?_
    ·clear hb
     refine kW ?_;rw [g,if_pos he];exact aR (oh none he ⟨⟨_,rfl,rfl⟩,trivial⟩)
    ·exact absurd hb (by simpa using he)
   ·obtain ⟨rfl,rfl,T⟩:=ho
    rw [if_neg (show¬(0:Int)≠0 by decide)] at g;show AK _ _ _ _ (au _) _;refine kW ?_;refine kCf ?_;refine kW ?_;refine AK.lp ⟨(k+1,c1,R),⟨P,g,i,T⟩,?_,by dsimp only;omega⟩;rcases R with _|⟨_|_,i2⟩
    ·exact wN ⟨kI,kI,kI,kI,kU,trivial⟩ ⟨kJ,trivial⟩ rfl rfl trivial
    ·exact wN ⟨kI,kI,kI,kI,kU,trivial⟩ ⟨kJ,kJ,kJ,kJ,trivial⟩ rfl rfl ⟨(al _).noFrs _,(am _).noFrs _,rfl,trivial⟩
    ·exact wN ⟨kI,kI,kI,kI,kU,trivial⟩ ⟨kJ,kJ,kJ,kJ,trivial⟩ rfl rfl ⟨(al _).noFrs _,(am _).noFrs _,rfl,trivial⟩
  ·have hge:k=j.length:=by
    have: ¬k<j.length:=by simpa [aP] using hb
    omega
   clear hb;rw [gB6 (by omega),CS.all] at g;rw [g,if_neg (show¬(0:Int)≠0 by decide)];refine AK.exit rfl ?_;refine kW ?_;refine kC (fun hb=> ?_) fun hb=> ?_
   ·have r:nm=⟨#[]⟩:=gB3 hb
    clear hb;rw [if_pos r];refine kW ?_;exact aR (oh (q:=(cs0,abN,3)) none (show (3:Int)≠0 by decide) ⟨⟨_,rfl,rfl⟩,trivial⟩)
   ·have r: ¬nm=⟨#[]⟩:=gB4 hb
    clear hb;rw [if_neg r];refine kW ?_;exact aR (Iv (some (true,(U,mT),(capN,mN),dm)) rfl J ⟨⟨_,rfl,rfl⟩,⟨_,rfl,rfl⟩,⟨_,rfl,(al ts).told _⟩,⟨_,rfl,(am ts).told _⟩,⟨_,rfl,rfl⟩,trivial⟩)
theorem LN (neg:Bool):tH Tryz.prog neg 30 (.pointer none) (.pointer none) true:=by
 intro w x y g
 have hg:(eqGuard (lw neg) 30 x y (.pointer none) (.pointer none)).run Tryz.prog w= .ok () w:=by
  cases x<;>cases y<;>first|(cases g;done)|(cases neg<;>simp [go_sem,eqGuard,lw])
 cases neg
 ·exact ⟨hg,by simp [go_sem,lw]⟩
 ·exact ⟨hg,by simp [go_sem,lw]⟩
theorem Lh (neg:Bool) (g o:Nat):tH Tryz.prog neg 30 (.pointer (some ⟨g,o,none⟩)) (.pointer none) false:=by
 intro w x y i
 have hg:(eqGuard (lw neg) 30 x y (.pointer (some ⟨g,o,none⟩)) (.pointer none)).run Tryz.prog w= .ok () w:=by
  cases x<;>cases y<;>first|(cases i;done)|(cases neg<;>simp [go_sem,eqGuard,lw])
 cases neg
 ·exact ⟨hg,by simp [go_sem,lw]⟩
 ·exact ⟨hg,by simp [go_sem,lw]⟩
def dkV:ByteArray:=⟨#[86,97,108,117,101,115]⟩
def dkC:ByteArray:=⟨#[67,104,97,114,116]⟩
def dkN:ByteArray:=⟨#[78,97,109,101]⟩
def dkW:ByteArray:=⟨#[86,101,114,115,105,111,110]⟩
def dkR:ByteArray:=⟨#[82,101,108,101,97,115,101]⟩
def abV (nm ver:ByteArray):V:=br [(dkN,V.str nm),(dkW,V.str ver)]
def xp (nm ver:ByteArray) (v:V) (rel:ByteArray):V:=br [(dkC,abV nm ver),(dkR,br [(dkN,V.str rel)]),(dkV,v)]
theorem Iw (nm ver:ByteArray):iv [(dkN,V.str nm),(dkW,V.str ver)]= [(dkN,V.str nm),(dkW,V.str ver)]:=kk
theorem F8 (rel:ByteArray):iv [(dkN,V.str rel)]= [(dkN,V.str rel)]:=kk
theorem F9 (a v r:V):iv [(dkV,v),(dkC,a),(dkR,r)]= [(dkC,a),(dkR,r),(dkV,v)]:=kk
theorem J2 (v:V) (rel:ByteArray):AC Tryz.prog 11 [.raw (.pointer none),(vA (v)),.str rel] ((vA (V.null))):=by
 have i:=jR;refine kE Tryz.func11 kK kM fun E j=> ?_
 refine kW ?_;refine kP [] ?_ ?_
 ·((repeat' apply aI)<;>first|exact kD|(intro g;refine ⟨?_,kG⟩;(repeat' apply aI)<;>first|exact kD|skip)|skip)
  ·exact LN false
 refine kCt ?_;refine kW ?_;refine kQ [.v ((vA (V.null)))] ?_;refine kW ?_;refine aR ⟨_,rfl,?_⟩;rfl
def chX (b:Bool) (nm ver:ByteArray) (u:V):List AV:=match b with
 |true=>chC nm ver u
 |false=>chT nm ver u
theorem py (s:ByteArray):(V.str s).size=1:=by rw [V.size_eq];rfl
theorem LO (b:Bool) (nm ver:ByteArray) (u v:V) (rel:ByteArray) (T:v.size≤1000000):MS Tryz.prog 11 [(2000000,chX b nm ver u)] [.np 2000000 0,(vA (v)),.str rel] [(2000000,chX b nm ver u)] ((vA ((xp nm ver v rel)))):=by
 have U:=ec nm;have s2:=ec ver;have s3:=ec rel;have i:=cJ [(dkN,V.str nm),(dkW,V.str ver)] (by simp only [aw,py];decide);have j:=cJ [(dkN,V.str rel)] (by simp only [aw,py];decide);have p:=cJ [(dkV,v),(dkC,abV nm ver),(dkR,br [(dkN,V.str rel)])] (by simp only [aw,abV,bo,py];omega);rw [Iw] at i;rw [F8] at j;rw [F9] at p;obtain ⟨r,C,I,vs,J,P⟩:=v;cases b
 all_goals
  refine MS.enter Tryz.func11 kK kM (by rfl) (by rfl) fun E hE=> ?_
  show AK _ _ _ [.c j7] _ _;rw [j7];refine kW ?_;refine kP [] ?_ ?_
  ·((repeat' apply aI)<;>first|exact kD|(intro R;refine ⟨?_,kG⟩;(repeat' apply aI)<;>first|exact kD|skip)|skip)
   ·exact fun g o=>Lh false g o
  refine kCf ?_;refine kW ?_;refine kQ [.v ((vA ((V.str nm)))),.v ((vA ((V.str ver)))),.v ((vA ((abV nm ver))))] ?_;refine kW ?_;refine kQ [.v ((vA ((V.str rel)))),.v ((vA ((br [(dkN,V.str rel)])))),.v ((vA ((xp nm ver (.mk r C I vs J P) rel))))] ?_;refine kW ?_;exact aR ⟨⟨_,rfl,rfl⟩,⟨_,rfl,rfl⟩,trivial⟩
end Go.Proofs.YtbgflifmanjpjaaGreatDoor
