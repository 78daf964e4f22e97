/- Part 22. -/
import Derived.Test.YtbgflifmanjpjaaGreatDoorS21
set_option linter.unusedSimpArgs false
set_option linter.unusedVariables false
namespace Go.Proofs.YtbgflifmanjpjaaGreatDoor
section
open Go.RowKit
abbrev cellsY (st:YR) (cap:Nat):List AV:= [.sli 2000001 2 st.l.length cap,.int .i64 (st.at_:Int),.int .i64 st.bad]
def eX (l:List (Nat×Bs)) (m:Nat):List AV:=(lW l).flatten++List.replicate m .top
abbrev boxY (st:YR) (cap m:Nat):List (Nat×List AV):= [(2000000,cellsY st cap),(2000001,eX st.l m)]
theorem rg (x:Nat×Bs) (l:List (Nat×Bs)) (m:Nat):eX (x::l) m= .int .i64 x.1:: .str (toB x.2)::eX l m:=rfl
theorem it: ∀{l:List (Nat×Bs)} {k:Nat} {x:Nat×Bs} (m:Nat),l[k]? =some x→((eX l m).drop (k*2)).take 2= [.int .i64 x.1,.str (toB x.2)]
 | [],k,x,m,h=>by cases h
 |y::l,0,x,m,h=>by cases h;rfl
 |y::l,k+1,x,m,h=>by
  rw [show (k+1)*2=k*2+1+1 by omega,rg,List.drop_succ_cons,List.drop_succ_cons];exact it m h
theorem Cx: ∀{l:List (Nat×Bs)} {k:Nat} (x:Nat×Bs) (m:Nat),k<l.length→(eX l m).take (k*2)++ [.int .i64 x.1,.str (toB x.2)]++(eX l m).drop (k*2+2)=eX (l.set k x) m
 | [],k,x,m,h=>by simp at h
 |y::l,0,x,m,h=>rfl
 |y::l,k+1,x,m,h=>by
  have ih:=Cx (l:=l) (k:=k) x m (by simpa using h);rw [show (k+1)*2=k*2+1+1 by omega,rg,List.take_succ_cons,List.take_succ_cons,show k*2+1+1+2=(k*2+2)+1+1 by omega,List.drop_succ_cons,List.drop_succ_cons,List.set_cons_succ,rg,←ih];rfl
theorem jl {l:List (Nat×Bs)} {m:Nat} {x:AV} (h:x∈eX l m):(∃n,x= .int .i64 n)∨(∃s,x= .str s)∨x= .top:=by
 rcases gB5 h with h|h
 ·obtain ⟨c,i,g⟩:=List.mem_flatten.1 h
  obtain ⟨p,_,rfl⟩:=List.mem_map.1 i;rcases gB2 g with rfl|g
  ·exact .inl ⟨_,rfl⟩
  ·rcases gB2 g with rfl|g
   ·exact .inr (.inl ⟨_,rfl⟩)
   ·cases g
 ·exact .inr (.inr (List.eq_of_mem_replicate h))
theorem aN (l:List (Nat×Bs)) (m:Nat):(eX l m).map AV.told=eX l m:=by
 refine (List.map_congr_left fun x g=> ?_).trans (List.map_id _);rcases jl g with ⟨n,rfl⟩|⟨s,rfl⟩|rfl<;>rfl
theorem rh (st:YR) (cap m:Nat) (a:AV) (g:a.okIn=true):ft (boxY st cap m) [.np 2000000 0,a]=true:=by
 unfold ft;simp only [List.all_cons,List.all_nil,g]
 have h:(eX st.l m).all AV.okIn=true:=List.all_eq_true.2 fun x i=>by
  rcases jl i with ⟨n,rfl⟩|⟨s,rfl⟩|rfl<;>rfl
 rw [h];rfl
theorem NJ (st:YR) (cap m:Nat) (v:V) (b:Nat→Option (List AV×Bool)):(okS [2000000,2000001] (boxY st cap m) ((vA (v)))&&bf b (au [2000000,2000001] (boxY st cap m)))=true:=by
 have h:(eX st.l m).all (AV.inS (aw (boxY st cap m)))=true:=List.all_eq_true.2 fun x g=>by
  rcases jl g with ⟨n,rfl⟩|⟨s,rfl⟩|rfl<;>rfl
 unfold okS;simp only [List.all_cons,List.all_nil,h];rfl
theorem fl (l:List (Nat×Bs)) (m:Nat):(eX l m).all AV.noFrs=true:=List.all_eq_true.2 fun x g=>by
 rcases jl g with ⟨n,rfl⟩|⟨s,rfl⟩|rfl<;>rfl
def RdA (f:FuncId) (a:AV) (st:YR) (r:V×YR):Prop:= ∀cap m,MS Tryz.prog f (boxY st cap m) [.np 2000000 0,a] (boxY r.2 cap m) ((vA (r.1)))
theorem RdA.two {f:FuncId} {a:AV} {st:YR} {R:V×YR} (h:RdA f a st R) (cap m:Nat):MS Tryz.prog f [(2000000,cellsY st cap),(2000001,(eX st.l m).map AV.told)] [.np 2000000 0,a] (boxY R.2 cap m) ((vA (R.1)))∧ ∀b,(okS [2000000,2000001] (boxY R.2 cap m) ((vA (R.1)))&&bf b (au [2000000,2000001] (boxY R.2 cap m)))=true:=by
 rw [aN];exact ⟨h cap m,fun b=>NJ _ _ _ _ _⟩
theorem rl (st:YR) (e:Int):RdA 48 (.int .i64 e) st (V.null,st.fail e):=fun cap m=>by
 refine MS.enter Tryz.func48 lh li (by rfl) (rh st cap m _ rfl) fun E j=> ?_
 show AK _ _ _ [.c eh] _ _;rw [eh];refine kW ?_;refine kC (fun hb=> ?_) fun hb=> ?_
 ·have g:st.bad=0:=by simpa using hb
  have i:st.fail e=⟨st.l,st.l.length,e⟩:=by unfold YR.fail;rw [if_pos g]
  rw [i];refine kW ?_;refine aR ⟨⟨_,rfl,rfl⟩,⟨_,rfl,rfl⟩,⟨_,rfl,aN _ _⟩,trivial⟩
 ·have g: ¬st.bad=0:=by simpa using hb
  have i:st.fail e=⟨st.l,st.l.length,st.bad⟩:=by unfold YR.fail;rw [if_neg g]
  rw [i];refine kW ?_;refine aR ⟨⟨_,rfl,rfl⟩,⟨_,rfl,rfl⟩,⟨_,rfl,aN _ _⟩,trivial⟩
theorem Cy (st:YR) (s:Bs) (U:s.length≤1000000):RdA 94 (.str (toB s)) st (lg s st):=fun cap m=>by
 have T:=EG 1000000 (gA4 _) (2*s.length+1) [] s U (gA4 _);generalize j:lg s st=R;unfold lg mH at j;generalize bD (2*s.length+1) (.one []) s=q at*;obtain ⟨v,rest,e⟩:=q;dsimp only at j;refine MS.enter Tryz.func94 jh ji (by rfl) (rh _ cap m _ rfl) fun E hE=> ?_
 show AK _ _ _ [.c dm] _ _;rw [dm];refine kW ?_;refine kQ [.v (fA (v,rest,e))] ?_;have p:=bH rest;have key: ∀r,(V.null,st.fail r)=R→_:=fun r h=>(h▸rl st r:RdA 48 (.int .i64 r) st R).two cap m
 refine kW ?_;refine kQ [] ?_;refine kC (fun hb=> ?_) fun hb=> ?_
 ·rw [p] at hb
  have i:e=0∧rest≠ []:=by simpa [List.isEmpty_iff] using hb
  have g:(V.null,st.fail 10)=R:=by simpa [i.1,i.2] using j
  obtain ⟨C,I⟩:=key 10 g;refine kW ?_;refine kC (fun hb=> ?_) fun hb=> ?_
  ·refine kW ?_
   refine kP [.s [2000000,2000001] (boxY (R.2) cap m) ((vA (R.1)))] ?_ ?_
   ·((repeat' apply aI)<;>first|exact kD|(intro J;refine ⟨?_,kG⟩;(repeat' apply aI)<;>first|exact kD|skip)|skip)
    all_goals first|exact C|exact I _
   refine kW ?_;refine aR ⟨⟨_,rfl,?_⟩,⟨_,rfl,rfl⟩,⟨_,rfl,aN _ _⟩,trivial⟩;rfl
  ·simp at hb
 ·rw [p] at hb
  refine kW ?_;refine kC (fun hb=> ?_) fun hb=> ?_
  ·have i:e≠0:=by simpa using hb
   have g:(V.null,st.fail e)=R:=by simpa [i] using j
   obtain ⟨C,I⟩:=key e g;refine kW ?_;refine kP [.s [2000000,2000001] (boxY (R.2) cap m) ((vA (R.1)))] ?_ ?_
   ·((repeat' apply aI)<;>first|exact kD|(intro J;refine ⟨?_,kG⟩;(repeat' apply aI)<;>first|exact kD|skip)|skip)
    all_goals first|exact C|exact I _
   refine kW ?_;refine aR ⟨⟨_,rfl,?_⟩,⟨_,rfl,rfl⟩,⟨_,rfl,aN _ _⟩,trivial⟩;rfl
  ·rename_i P
   have i:e=0:=by simpa using hb
   subst i
   have h1:rest= []:=by
    have:=P;simpa [List.isEmpty_iff] using this
   have h2:(v,st)=R:=by simpa [h1] using j
   subst h2;refine kW ?_;refine aR ⟨⟨_,rfl,?_⟩,⟨_,rfl,rfl⟩,⟨_,rfl,aN _ _⟩,trivial⟩;rfl
theorem Lm (st:YR) (i n:Nat) (C: ∀j t,st.l[st.at_]? =some (j,t)→i<j→RdA 47 (.int .i64 j) st (a8 n .block j st)):
  RdA 148 (.int .i64 i) st (a8 (n+1) .below i st):=fun cap m=>by
 generalize g:a8 (n+1) .below i st=R;unfold a8 at g;have hN:=oC;refine MS.enter Tryz.func148 j5 j6 (by rfl) (rh _ cap m _ rfl) fun E hE=> ?_
 show AK _ _ _ [.c dI] _ _;rw [dI];refine kW ?_;cases I:st.l[st.at_]? with
 |none=>
  rw [I] at g;dsimp only at g;subst g;have P:decide ((st.at_:Int)<(st.l.length:Int))=false:=by have:=List.getElem?_eq_none_iff.1 I;simpa using this
  refine kP [.c [.int .i64 0,.str ⟨#[]⟩]] ?_ ?_
  ·((repeat' apply aI)<;>first|exact kD|(intro p;refine ⟨?_,kG⟩;(repeat' apply aI)<;>first|exact kD|skip)|skip)
   all_goals (exfalso;rw [P] at p;simp [gd] at p)
  rw [P];refine kC (fun hb=> ?_) fun hb=> ?_
  ·cases hb
  ·refine kW ?_
   refine kQ [.v ((vA (V.null)))] ?_;refine aR ⟨⟨_,rfl,?_⟩,⟨_,rfl,rfl⟩,⟨_,rfl,aN _ _⟩,trivial⟩;rfl
 |some x=>
  obtain ⟨j,t⟩:=x;rw [I] at g;dsimp only at g;have hl:=(gA0 I).1;have J:=it m I;have C:=fun h=>C j t I h
  refine kP [.c [.int .i64 j,.str (toB t)]] ?_ ?_
  ·((repeat' apply aI)<;>first|exact kD|(intro p;refine ⟨?_,kG⟩;(repeat' apply aI)<;>first|exact kD|skip)|skip)
   all_goals first|exact J|skip
  have P:decide ((st.at_:Int)<(st.l.length:Int))=true:=by simpa using hl
  rw [P];refine kC (fun hb=> ?_) fun hb=> ?_
  ·have r:i<j:=by simpa using hb
   rw [if_pos r] at g;have C:=C r;rw [g] at C;obtain ⟨T,U⟩:=C.two cap m;refine kW ?_;refine kP [.c [.int .i64 j,.str (toB t)],.s [2000000,2000001] (boxY (R.2) cap m) ((vA (R.1)))] ?_ ?_
   ·((repeat' apply aI)<;>first|exact kD|(intro p;refine ⟨?_,kG⟩;(repeat' apply aI)<;>first|exact kD|skip)|skip)
    all_goals first|exact J|exact T|exact U _|skip
   refine kW ?_;refine aR ⟨⟨_,rfl,?_⟩,⟨_,rfl,rfl⟩,⟨_,rfl,aN _ _⟩,trivial⟩;rfl
  ·have r: ¬i<j:=by simpa using hb
   rw [if_neg r] at g;subst g;refine kW ?_;refine kQ [.v ((vA (V.null)))] ?_;refine aR ⟨⟨_,rfl,?_⟩,⟨_,rfl,rfl⟩,⟨_,rfl,aN _ _⟩,trivial⟩;rfl
end
section
open Go.RowKit
theorem yV (o:Option (Bs×Bs)):AA o= .tup [.str (toB (o.getD ([],[])).1),.str (toB (o.getD ([],[])).2),.bool o.isSome]:=by cases o<;>rfl
theorem Ln (st:YR) (i n:Nat) (hI:YInv st) {j:Nat} {t:Bs} (hx:st.l[st.at_]? =some (j,t)) (hL:RdA 92 (.int .i64 i) st (a8 n (.list []) i st))
  (hP:RdA 93 (.int .i64 i) st (a8 n (.pairs []) i st)):RdA 47 (.int .i64 i) st (a8 (n+1) .block i st):=fun cap m=>by
 have hln:=hI.ln _ (gA2 hx);have hlz:=hI.len;have hl:=(gA0 hx).1;simp only at hln;have hsp:=F9 t (by omega);rw [yV] at hsp;have hit:=EA t;have hat:=it m hx;have hin:=Cy ⟨st.l,st.at_+1,st.bad⟩ t (by omega);have hw1:IntKind.i64.wrap ((st.at_:Int)+1)=((st.at_+1:Nat):Int):=by rw [aD (by omega) (by omega)];omega
 generalize r:a8 (n+1) .block i st=R;unfold a8 at r;rw [hx] at r;dsimp only at r;refine MS.enter Tryz.func47 j9 ka (by rfl) (rh _ cap m _ rfl) fun E hE=> ?_
 show AK _ _ _ [.c dK] _ _;rw [dK];refine kW ?_;refine kP [.c [.int .i64 j,.str (toB t)]] ?_ ?_
 ·((repeat' apply aI)<;>first|exact kD|(intro g;refine ⟨?_,kG⟩;(repeat' apply aI)<;>first|exact kD|skip)|skip)
  all_goals first|exact hat|skip
 refine kW ?_;refine kQ [.v (.tup [.str (toB ((dj t).getD ([],[])).1),.str (toB ((dj t).getD ([],[])).2),.bool (dj t).isSome])] ?_;refine kW ?_;refine kQ [.v (.bool (dH t))] ?_;refine kC (fun hb=> ?_) fun hb=> ?_
 ·simp only [hb,if_true] at r
  clear hP hin;generalize a8 n (.list []) i st=q at*;obtain ⟨v,st1⟩:=q;dsimp only at r;obtain ⟨k1,k2⟩:=hL.two cap m;refine kW ?_;refine kP [.s [2000000,2000001] (boxY (st1) cap m) ((vA (v)))] ?_ ?_
  ·((repeat' apply aI)<;>first|exact kD|(intro g;refine ⟨?_,kG⟩;(repeat' apply aI)<;>first|exact kD|skip)|skip)
   all_goals first|exact k1|exact k2 _|skip
  clear hb hx hln hl hlz hsp hit hat hw1 k1 k2 hL hI;cases p:(st1).l[(st1).at_]? with
  |none=>
   have C:(st1).deep i=false:=by unfold YR.deep;rw [p]
   rw [C,if_neg (by simp)] at r;have P:decide ((((st1).at_:Nat):Int)<((st1).l.length:Int))=false:=by have:=List.getElem?_eq_none_iff.1 p;simpa using this
   refine kW ?_;refine kP [.c [.int .i64 0,.str ⟨#[]⟩]] ?_ ?_
   ·((repeat' apply aI)<;>first|exact kD|(intro g;refine ⟨?_,kG⟩;(repeat' apply aI)<;>first|exact kD|skip)|skip)
    all_goals (exfalso;rw [P] at g;simp [gd] at g)
   rw [P];refine kC (fun hb=> ?_) fun hb=> ?_
   ·cases hb
   ·subst r
    refine kW ?_;refine aR ⟨⟨_,rfl,?_⟩,⟨_,rfl,rfl⟩,⟨_,rfl,aN _ _⟩,trivial⟩;rfl
  |some x=>
   obtain ⟨T,t1⟩:=x;have C:(st1).deep i=decide (i<T):=by unfold YR.deep;rw [p]
   rw [C] at r;have U:=(gA0 p).1;have J:=it m p;have P:decide ((((st1).at_:Nat):Int)<((st1).l.length:Int))=true:=by simpa using U
   refine kW ?_;refine kP [.c [.int .i64 T,.str (toB t1)]] ?_ ?_
   ·((repeat' apply aI)<;>first|exact kD|(intro g;refine ⟨?_,kG⟩;(repeat' apply aI)<;>first|exact kD|skip)|skip)
    all_goals first|exact J|skip
   rw [P];refine kC (fun hb=> ?_) fun hb=> ?_
   ·have I:i<T:=by simpa using hb
    rw [if_pos (by simpa using I)] at r;obtain ⟨f1,f2⟩:=(r▸rl (st1) 12:RdA 48 (.int .i64 12) (st1) R).two cap m;refine kW ?_;refine kP [.s [2000000,2000001] (boxY (R.2) cap m) ((vA (R.1)))] ?_ ?_
    ·((repeat' apply aI)<;>first|exact kD|(intro g;refine ⟨?_,kG⟩;(repeat' apply aI)<;>first|exact kD|skip)|skip)
     all_goals first|exact f1|exact f2 _|skip
    refine kW ?_;refine aR ⟨⟨_,rfl,?_⟩,⟨_,rfl,rfl⟩,⟨_,rfl,aN _ _⟩,trivial⟩;rfl
   ·have I: ¬i<T:=by simpa using hb
    rw [if_neg (by simpa using I)] at r;subst r;refine kW ?_;refine aR ⟨⟨_,rfl,?_⟩,⟨_,rfl,rfl⟩,⟨_,rfl,aN _ _⟩,trivial⟩;rfl
 ·simp only [hb,Bool.false_eq_true,if_false] at r
  refine kW ?_;refine kC (fun hb=> ?_) fun hb=> ?_
  ·simp only [hb,if_true] at r
   clear hL hin;generalize a8 n (.pairs []) i st=q at*;obtain ⟨v,st1⟩:=q;dsimp only at r;obtain ⟨k1,k2⟩:=hP.two cap m;refine kW ?_;refine kP [.s [2000000,2000001] (boxY (st1) cap m) ((vA (v)))] ?_ ?_
   ·((repeat' apply aI)<;>first|exact kD|(intro g;refine ⟨?_,kG⟩;(repeat' apply aI)<;>first|exact kD|skip)|skip)
    all_goals first|exact k1|exact k2 _|skip
   clear hb hx hln hl hlz hsp hit hat hw1 k1 k2 hP hI;cases p:(st1).l[(st1).at_]? with
   |none=>
    have C:(st1).deep i=false:=by unfold YR.deep;rw [p]
    rw [C,if_neg (by simp)] at r;have P:decide ((((st1).at_:Nat):Int)<((st1).l.length:Int))=false:=by have:=List.getElem?_eq_none_iff.1 p;simpa using this
    refine kW ?_;refine kP [.c [.int .i64 0,.str ⟨#[]⟩]] ?_ ?_
    ·((repeat' apply aI)<;>first|exact kD|(intro g;refine ⟨?_,kG⟩;(repeat' apply aI)<;>first|exact kD|skip)|skip)
     all_goals (exfalso;rw [P] at g;simp [gd] at g)
    rw [P];refine kC (fun hb=> ?_) fun hb=> ?_
    ·cases hb
    ·subst r
     refine kW ?_;refine aR ⟨⟨_,rfl,?_⟩,⟨_,rfl,rfl⟩,⟨_,rfl,aN _ _⟩,trivial⟩;rfl
   |some x=>
    obtain ⟨T,t1⟩:=x;have C:(st1).deep i=decide (i<T):=by unfold YR.deep;rw [p]
    rw [C] at r;have U:=(gA0 p).1;have J:=it m p;have P:decide ((((st1).at_:Nat):Int)<((st1).l.length:Int))=true:=by simpa using U
    refine kW ?_;refine kP [.c [.int .i64 T,.str (toB t1)]] ?_ ?_
    ·((repeat' apply aI)<;>first|exact kD|(intro g;refine ⟨?_,kG⟩;(repeat' apply aI)<;>first|exact kD|skip)|skip)
     all_goals first|exact J|skip
    rw [P];refine kC (fun hb=> ?_) fun hb=> ?_
    ·have I:i<T:=by simpa using hb
     rw [if_pos (by simpa using I)] at r;obtain ⟨f1,f2⟩:=(r▸rl (st1) 12:RdA 48 (.int .i64 12) (st1) R).two cap m;refine kW ?_;refine kP [.s [2000000,2000001] (boxY (R.2) cap m) ((vA (R.1)))] ?_ ?_
     ·((repeat' apply aI)<;>first|exact kD|(intro g;refine ⟨?_,kG⟩;(repeat' apply aI)<;>first|exact kD|skip)|skip)
      all_goals first|exact f1|exact f2 _|skip
     refine kW ?_;refine aR ⟨⟨_,rfl,?_⟩,⟨_,rfl,rfl⟩,⟨_,rfl,aN _ _⟩,trivial⟩;rfl
    ·have I: ¬i<T:=by simpa using hb
     rw [if_neg (by simpa using I)] at r;subst r;refine kW ?_;refine aR ⟨⟨_,rfl,?_⟩,⟨_,rfl,rfl⟩,⟨_,rfl,aN _ _⟩,trivial⟩;rfl
  ·simp only [hb,Bool.false_eq_true,if_false] at r
   clear hL hP;generalize lg t ⟨st.l,st.at_+1,st.bad⟩=q at*;obtain ⟨v,st1⟩:=q;dsimp only at r;obtain ⟨k1,k2⟩:=hin.two cap m;refine kW ?_;refine kP [.s [2000000,2000001] (boxY (st1) cap m) ((vA (v)))] ?_ ?_
   ·((repeat' apply aI)<;>first|exact kD|(intro g;refine ⟨?_,kG⟩;(repeat' apply aI)<;>first|exact kD|skip)|skip)
    all_goals first|(rw [hw1];exact k1)|exact k2 _|skip
   clear hb hx hln hl hlz hsp hit hat hw1 k1 k2 hin hI;cases p:(st1).l[(st1).at_]? with
   |none=>
    have C:(st1).deep i=false:=by unfold YR.deep;rw [p]
    rw [C,if_neg (by simp)] at r;have P:decide ((((st1).at_:Nat):Int)<((st1).l.length:Int))=false:=by have:=List.getElem?_eq_none_iff.1 p;simpa using this
    refine kW ?_;refine kP [.c [.int .i64 0,.str ⟨#[]⟩]] ?_ ?_
    ·((repeat' apply aI)<;>first|exact kD|(intro g;refine ⟨?_,kG⟩;(repeat' apply aI)<;>first|exact kD|skip)|skip)
     all_goals (exfalso;rw [P] at g;simp [gd] at g)
    rw [P];refine kC (fun hb=> ?_) fun hb=> ?_
    ·cases hb
    ·subst r
     refine kW ?_;refine aR ⟨⟨_,rfl,?_⟩,⟨_,rfl,rfl⟩,⟨_,rfl,aN _ _⟩,trivial⟩;rfl
   |some x=>
    obtain ⟨T,t1⟩:=x;have C:(st1).deep i=decide (i<T):=by unfold YR.deep;rw [p]
    rw [C] at r;have U:=(gA0 p).1;have J:=it m p;have P:decide ((((st1).at_:Nat):Int)<((st1).l.length:Int))=true:=by simpa using U
    refine kW ?_;refine kP [.c [.int .i64 T,.str (toB t1)]] ?_ ?_
    ·((repeat' apply aI)<;>first|exact kD|(intro g;refine ⟨?_,kG⟩;(repeat' apply aI)<;>first|exact kD|skip)|skip)
     all_goals first|exact J|skip
    rw [P];refine kC (fun hb=> ?_) fun hb=> ?_
    ·have I:i<T:=by simpa using hb
     rw [if_pos (by simpa using I)] at r;obtain ⟨f1,f2⟩:=(r▸rl (st1) 12:RdA 48 (.int .i64 12) (st1) R).two cap m;refine kW ?_;refine kP [.s [2000000,2000001] (boxY (R.2) cap m) ((vA (R.1)))] ?_ ?_
     ·((repeat' apply aI)<;>first|exact kD|(intro g;refine ⟨?_,kG⟩;(repeat' apply aI)<;>first|exact kD|skip)|skip)
      all_goals first|exact f1|exact f2 _|skip
     refine kW ?_;refine aR ⟨⟨_,rfl,?_⟩,⟨_,rfl,rfl⟩,⟨_,rfl,aN _ _⟩,trivial⟩;rfl
    ·have I: ¬i<T:=by simpa using hb
     rw [if_neg (by simpa using I)] at r;subst r;refine kW ?_;refine aR ⟨⟨_,rfl,?_⟩,⟨_,rfl,rfl⟩,⟨_,rfl,aN _ _⟩,trivial⟩;rfl
end
section
open Go.RowKit
def BlkOk (N:Nat):Prop:= ∀(st:YR) (i n j:Nat) (t:Bs),YInv st→st.l[st.at_]? =some (j,t)→i≤1000000→st.w≤N→3*st.w+2≤n→RdA 47 (.int .i64 i) st (a8 n .block i st)
theorem BlkOk.below {N:Nat} (r:BlkOk N) {st:YR} {i n:Nat} (g:YInv st) (C:st.w≤N) (hn:3*st.w+3≤n):RdA 148 (.int .i64 i) st (a8 n .below i st):=by
 obtain ⟨k,rfl⟩: ∃k,n=k+1:=⟨n-1,by omega⟩
 refine Lm st i k fun j t p _=>r st j k j t g p ?_ C (by omega)
 have:=g.ln _ (gA2 p);simp only at this;omega
set_option maxHeartbeats 1000000 in
theorem M5 {N:Nat} (hB:BlkOk N) (hN:N≤100000000) (st:YR) (i n:Nat) (hI:YInv st) (hi:i≤1000000) (hw:st.w≤N+1) (hn:3*st.w+1≤n):RdA 92 (.int .i64 i) st (a8 n (.list []) i st):=fun cap m=>by
 have hl:=wo;generalize g:a8 n (.list []) i st=R;refine MS.enter Tryz.func92 lj lk (by rfl) (rh _ cap m _ rfl) fun E hE=> ?_
 show AK _ _ _ [.c ei] _ _;rw [ei];refine kW ?_;refine kQ [.v (.agg [.int .i64 4,.bool false,.int .i64 0,.str ⟨#[]⟩,.lst .nil 6 [],.lst .nil 7 []])] ?_;refine kW ?_
 refine aJ (fun x:(Nat→Nat)×List V×YR×Nat=>(ar [(0,.np 2000000 0),(1,.int .i64 i),(4,.ptr 4 0),(5,.ptr 5 0)],⟨ag [(4,[.int .i64 0,.bool false,.int .i64 0,.str ⟨#[]⟩,.lst .nil 6 [],.lst .nil 7 []],false),(5,[.int .i64 4,.bool false,.int .i64 0,.str ⟨#[]⟩,.lst (.own 76 (x.1 76)) 6 (aL x.2.1),.lst .nil 7 []],false),(2000000,cellsY x.2.2.1 cap,false),(2000001,eX x.2.2.1.l m,false)],x.1⟩))
  (fun x=>a8 x.2.2.2 (.list x.2.1) i x.2.2.1=R∧YInv x.2.2.1∧x.2.2.1.w+aK x.2.1≤st.w∧3*x.2.2.1.w+1≤x.2.2.2∧RdL x.2.1) (fun x=>x.2.2.1.w) (fun _=>0,[],st,n) ⟨g,hI,by dsimp only [aK];omega,hn,fun x I=>by cases I⟩
  (wN ⟨kI,kI,kI,kI,trivial⟩ ⟨kJ,⟨_,rfl,.refl _,.refl _,.refl _,.refl _,.own _ _ _ _,.refl _,trivial⟩,kJ,kJ,trivial⟩ rfl rfl ⟨rfl,fl _ _,trivial⟩) fun ⟨r,out,st1,k⟩ ⟨g,p,hz,hk,hrd⟩=> ?_
 dsimp only at g p hz hk hrd;dsimp only;clear hI hn;obtain ⟨k,rfl⟩: ∃q,k=q+1:=⟨k-1,by omega⟩
 unfold a8 at g;refine kW ?_;cases I:st1.l[st1.at_]? with
 |none=>
  rw [I] at g;dsimp only at g;have J:decide ((st1.at_:Int)<(st1.l.length:Int))=false:=by have:=List.getElem?_eq_none_iff.1 I;simpa using this
  refine kP [.c [.int .i64 0,.str ⟨#[]⟩],.c [.int .i64 0,.str ⟨#[]⟩],.v (.bool false)] ?_ ?_
  ·((repeat' apply aI)<;>first|exact kD|(intro C;refine ⟨?_,kG⟩;(repeat' apply aI)<;>first|exact kD|skip)|skip)
   all_goals (exfalso;rw [J] at C;simp [gd] at C)
  rw [J];refine kC (fun hb=> ?_) fun hb=> ?_
  ·cases hb
  ·subst g
   refine AK.exit rfl ?_;refine kW ?_;refine aR ⟨⟨_,rfl,?_⟩,⟨_,rfl,rfl⟩,⟨_,rfl,aN _ _⟩,trivial⟩;rfl
 |some x=>
  obtain ⟨j,t⟩:=x;rw [I] at g;dsimp only at g;have hl1:=(gA0 I).1;have hat:=it m I;have hit:=EA t;have J:decide ((st1.at_:Int)<(st1.l.length:Int))=true:=by simpa using hl1
  refine kP [.c [.int .i64 j,.str (toB t)],.c [.int .i64 j,.str (toB t)],.v (.bool (dH t))] ?_ ?_
  ·((repeat' apply aI)<;>first|exact kD|(intro C;refine ⟨?_,kG⟩;(repeat' apply aI)<;>first|exact kD|skip)|skip)
   all_goals first|exact hat|skip
  rw [J];refine kC (fun hb=> ?_) fun hb=> ?_
  ·have hc:j=i∧dH t=true:=by
    have h2:(j:Int)=i∧dH t=true:=by simpa using hb
    exact ⟨by omega,h2.2⟩
   rw [if_pos hc] at g;obtain ⟨rfl,hitm⟩:=hc;have hln:=p.ln _ (gA2 I);have hlz:=p.len;have hil:=Ch hitm;have hwx:=YR.w_at I;have htl:=m7 (t.drop 1);have hne:=bH (tl (t.drop 1));have hll:=br out;have hw1:IntKind.i64.wrap ((st1.at_:Int)+1)=((st1.at_+1:Nat):Int):=by rw [aD (by omega) (by omega)];omega
   simp only at hln hwx;clear hb J hit;refine kW ?_;refine kP [.c [.int .i64 j,.str (toB t)],.v (.str (toB (tl (t.drop 1))))] ?_ ?_
   ·((repeat' apply aI)<;>first|exact kD|(intro C;refine ⟨?_,kG⟩;(repeat' apply aI)<;>first|exact kD|skip)|skip)
    all_goals first|exact hat|(rw [ae];omega)|(show AC _ _ [.str ((toB t).extract 1 (toB t).size),_] _;rw [fE];exact htl)|skip
   refine kW ?_;rw [hne];refine kC (fun hb=> ?_) fun hb=> ?_
   ·have P:tl (t.drop 1)= []:=by simpa [List.isEmpty_iff] using hb
    rw [if_pos P] at g;have hbl:=hB.below (i:=j) (n:=k) (p.next I) (by omega) (by omega);have hro:=dZ k .below j ⟨st1.l,st1.at_+1,st1.bad⟩ (p.next I) (by simp only [dV];omega) trivial;generalize a8 k .below j ⟨st1.l,st1.at_+1,st1.bad⟩=q at*;obtain ⟨v,st2⟩:=q;dsimp only at g;obtain ⟨k1,k2⟩:=hbl.two cap m;have T:aK (out++ [v])=aK out+v.size:=by rw [cG];simp [aK]
    have U:=hro.fit;have hwle:=hro.w;simp only [dV] at U hwle;refine kW ?_;refine AK.rega fw0 [.s [2000000,2000001] (boxY (st2) cap m) ((vA (v)))] (ar [(0,.np 2000000 0),(1,.int .i64 j),(4,.ptr 4 0),(5,.ptr 5 0)]) ⟨ag [(4,[.int .i64 0,.bool false,.int .i64 0,.str ⟨#[]⟩,.lst .nil 6 [],.lst .nil 7 []],false),(5,[.int .i64 4,.bool false,.int .i64 0,.str ⟨#[]⟩,.lst (.own 76 (r 76+1)) 6 (aL out++ [(vC (v))]),.lst .nil 7 []],false),(2000000,cellsY st2 cap,false),(2000001,eX st2.l m,false)],upd r 76 (r 76+1)⟩ ?_ ?_
    ·(repeat' (first|exact trivial|apply aI))
     all_goals first|exact rfl|(rw [hw1];exact k1)|exact k2 _|(simp only [aB,List.length_nil,gA3];omega)|(show _∨_;exact .inl rfl)|exact wN ⟨kI,kI,kI,kI,trivial⟩ ⟨kJ,kJ,kJ,kJ,trivial⟩ rfl rfl ⟨rfl,fl _ _,trivial⟩|skip
    ·refine AK.exit rfl ?_
     refine kW ?_;refine AK.lp ⟨(upd r 76 (r 76+1),out++ [v],st2,k),⟨g,hro.inv,by dsimp only;rw [T];omega,by dsimp only;omega,hrd.snoc hro.ord hro.sb⟩,(wN ⟨kI,kI,kI,kI,trivial⟩ ⟨kJ,⟨_,rfl,.refl _,.refl _,.refl _,.refl _,?_,.refl _,trivial⟩,kJ,kJ,trivial⟩ rfl rfl ⟨rfl,fl _ _,trivial⟩),by dsimp only;omega⟩;dsimp only;rw [kf,b9];exact .refl _
   ·have P:tl (t.drop 1)≠ []:=by simpa [List.isEmpty_iff] using hb
    rw [if_neg P] at g;generalize tl (t.drop 1)=rest at*;obtain ⟨d,hd⟩: ∃d,d=j+t.length-rest.length:=⟨_,rfl⟩
    rw [←hd] at g
    have hw2:IntKind.i64.wrap (IntKind.i64.wrap ((j:Int)+((toB t).size:Int))-((toB rest).size:Int))=(d:Int):=by
     rw [ae,ae,show IntKind.i64.wrap ((j:Int)+(t.length:Int))=(j:Int)+(t.length:Int) from aD (by omega) (by omega),aD (by omega) (by omega)];omega
    have hset:=YR.w_set (st:=st1) (y:=(d,rest)) I;simp only at hset;have hI2:YInv ⟨st1.l.set st1.at_ (d,rest),st1.at_,st1.bad⟩:=p.set (by simp only;omega);have hbl:=hB ⟨st1.l.set st1.at_ (d,rest),st1.at_,st1.bad⟩ d k d rest hI2 (List.getElem?_set_self hl1) (by omega) (by omega) (by omega);have hro:=dZ k .block d ⟨st1.l.set st1.at_ (d,rest),st1.at_,st1.bad⟩ hI2 (by simp only [dV];omega) trivial;generalize a8 k .block d ⟨st1.l.set st1.at_ (d,rest),st1.at_,st1.bad⟩=q at*;obtain ⟨v,st2⟩:=q;dsimp only at g;obtain ⟨k1,k2⟩:=hbl.two cap m;have T:aK (out++ [v])=aK out+v.size:=by rw [cG];simp [aK]
    have U:=hro.fit;have hwle:=hro.w;simp only [dV] at U hwle;refine kW ?_;refine kP [.c [.int .i64 j,.str (toB t)]] ?_ ?_
    ·((repeat' apply aI)<;>first|exact kD|(intro C;refine ⟨?_,kG⟩;(repeat' apply aI)<;>first|exact kD|skip)|skip)
     all_goals first|exact hat|skip
    refine kW ?_;refine kP [.c [.int .i64 j,.str (toB t)]] ?_ ?_
    ·((repeat' apply aI)<;>first|exact kD|(intro C;refine ⟨?_,kG⟩;(repeat' apply aI)<;>first|exact kD|skip)|skip)
     all_goals first|exact hat|skip
    refine AK.weak (fr' :=ar [(0,.np 2000000 0),(1,.int .i64 j),(4,.ptr 4 0),(5,.ptr 5 0),(7,.int .i64 d)]) (st' :=⟨ag [(4,[.int .i64 0,.bool false,.int .i64 0,.str ⟨#[]⟩,.lst .nil 6 [],.lst .nil 7 []],false),(5,[.int .i64 4,.bool false,.int .i64 0,.str ⟨#[]⟩,.lst (.own 76 (r 76)) 6 (aL out),.lst .nil 7 []],false),(2000000,cellsY ⟨st1.l.set st1.at_ (d,rest),st1.at_,st1.bad⟩ cap,false),(2000001,eX (st1.l.set st1.at_ (d,rest)) m,false)],r⟩) (wN ⟨kI,kI,kI,kI,⟨_,rfl,.of_eq (congrArg _ hw2)⟩,trivial⟩ ⟨kJ,kJ,⟨_,rfl,aJz (congrArg (fun z=> [AV.sli 2000001 2 z cap,.int .i64 (st1.at_:Int),.int .i64 st1.bad]) List.length_set.symm)⟩,⟨_,rfl,aJz ((congrArg (fun z=>(eX st1.l m).take (st1.at_*2)++ [AV.int .i64 z,.str (toB rest)]++(eX st1.l m).drop (st1.at_*2+2)) hw2).trans (Cx (d,rest) m hl1))⟩,trivial⟩ rfl rfl ⟨rfl,fl _ _,trivial⟩) ?_;refine AK.rega fw0 [.s [2000000,2000001] (boxY (st2) cap m) ((vA (v)))] (ar [(0,.np 2000000 0),(1,.int .i64 j),(4,.ptr 4 0),(5,.ptr 5 0)]) ⟨ag [(4,[.int .i64 0,.bool false,.int .i64 0,.str ⟨#[]⟩,.lst .nil 6 [],.lst .nil 7 []],false),(5,[.int .i64 4,.bool false,.int .i64 0,.str ⟨#[]⟩,.lst (.own 76 (r 76+1)) 6 (aL out++ [(vC (v))]),.lst .nil 7 []],false),(2000000,cellsY st2 cap,false),(2000001,eX st2.l m,false)],upd r 76 (r 76+1)⟩ ?_ ?_
    ·(repeat' (first|exact trivial|apply aI))
     all_goals first|exact rfl|exact k1|exact k2 _|(simp only [aB,List.length_nil,gA3];omega)|(show _∨_;exact .inl rfl)|exact wN ⟨kI,kI,kI,kI,trivial⟩ ⟨kJ,kJ,kJ,kJ,trivial⟩ rfl rfl ⟨rfl,fl _ _,trivial⟩|skip
    ·refine kW ?_
     refine AK.lp ⟨(upd r 76 (r 76+1),out++ [v],st2,k),⟨g,hro.inv,by dsimp only;rw [T];omega,by dsimp only;omega,hrd.snoc hro.ord hro.sb⟩,(wN ⟨kI,kI,kI,kI,trivial⟩ ⟨kJ,⟨_,rfl,.refl _,.refl _,.refl _,.refl _,?_,.refl _,trivial⟩,kJ,kJ,trivial⟩ rfl rfl ⟨rfl,fl _ _,trivial⟩),by dsimp only;omega⟩;dsimp only;rw [kf,b9];exact .refl _
  ·have hc: ¬(j=i∧dH t=true):=fun ⟨e1,e2⟩=>by subst e1;simp [e2] at hb
   rw [if_neg hc] at g;subst g;refine AK.exit rfl ?_;refine kW ?_;refine aR ⟨⟨_,rfl,?_⟩,⟨_,rfl,rfl⟩,⟨_,rfl,aN _ _⟩,trivial⟩;rfl
end
section
open Go.RowKit
set_option maxHeartbeats 1000000 in
theorem Lo {N:Nat} (hB:BlkOk N) (hN:N≤100000000) (st:YR) (i n:Nat) (hI:YInv st) (hi:i≤1000000) (hw:st.w≤N+1) (hn:3*st.w+1≤n):RdA 93 (.int .i64 i) st (a8 n (.pairs []) i st):=fun cap m=>by
 have hmm:=fc [] (by simp [aA]);generalize g:a8 n (.pairs []) i st=R;refine MS.enter Tryz.func93 j7 j8 (by rfl) (rh _ cap m _ rfl) fun E hE=> ?_
 show AK _ _ _ [.c dJ] _ _;rw [dJ];refine kW ?_;refine kQ [.v ((vA ((bP []))))] ?_;refine kW ?_
 refine aJ (fun x:List (ByteArray×V)×YR×Nat=>(ar [(0,.np 2000000 0),(1,.int .i64 i),(4,.ptr 4 0),(5,.ptr 5 0)],⟨ag [(4,[.int .i64 0,.bool false,.int .i64 0,.str ⟨#[]⟩,.lst .nil 6 [],.lst .nil 7 []],false),(5,(vC ((bP x.1))),false),(2000000,cellsY x.2.1 cap,false),(2000001,eX x.2.1.l m,false)],fun _=>0⟩))
  (fun x=>a8 x.2.2 (.pairs x.1) i x.2.1=R∧YInv x.2.1∧x.2.1.w+aA x.1≤st.w∧3*x.2.1.w+1≤x.2.2∧RdM x.1) (fun x=>x.2.1.w) ([],st,n) ⟨g,hI,by dsimp only [aA];omega,hn,List.Pairwise.nil,fun x J=>by cases J⟩
  (wN ⟨kI,kI,kI,kI,trivial⟩ ⟨kJ,kJ,kJ,kJ,trivial⟩ rfl rfl ⟨rfl,fl _ _,trivial⟩) fun ⟨out,st1,k⟩ ⟨g,I,hz,hk,r⟩=> ?_
 dsimp only at g I hz hk r;dsimp only;clear hI hn;obtain ⟨k,rfl⟩: ∃q,k=q+1:=⟨k-1,by omega⟩
 unfold a8 at g;refine kW ?_;cases J:st1.l[st1.at_]? with
 |none=>
  rw [J] at g;dsimp only at g;have P:decide ((st1.at_:Int)<(st1.l.length:Int))=false:=by have:=List.getElem?_eq_none_iff.1 J;simpa using this
  refine kP [.c [.int .i64 0,.str ⟨#[]⟩]] ?_ ?_
  ·((repeat' apply aI)<;>first|exact kD|(intro C;refine ⟨?_,kG⟩;(repeat' apply aI)<;>first|exact kD|skip)|skip)
   all_goals (exfalso;rw [P] at C;simp [gd] at C)
  rw [P];refine kC (fun hb=> ?_) fun hb=> ?_
  ·cases hb
  ·subst g
   refine AK.exit rfl ?_;refine kW ?_;refine aR ⟨⟨_,rfl,?_⟩,⟨_,rfl,rfl⟩,⟨_,rfl,aN _ _⟩,trivial⟩;rfl
 |some x=>
  obtain ⟨j,t⟩:=x;rw [J] at g;dsimp only at g;have hl1:=(gA0 J).1;have hat:=it m J;have P:decide ((st1.at_:Int)<(st1.l.length:Int))=true:=by simpa using hl1
  refine kP [.c [.int .i64 j,.str (toB t)]] ?_ ?_
  ·((repeat' apply aI)<;>first|exact kD|(intro C;refine ⟨?_,kG⟩;(repeat' apply aI)<;>first|exact kD|skip)|skip)
   all_goals first|exact hat|skip
  rw [P];refine kC (fun hb=> ?_) fun hb=> ?_
  ·have hc:j=i:=by
    have h2:(j:Int)=i:=by simpa using hb
    omega
   rw [if_pos hc] at g;subst hc;have hln:=I.ln _ (gA2 J);have hlz:=I.len;have hwx:=YR.w_at J;simp only at hln hwx;have hsp:=F9 t (by omega);rw [yV] at hsp;have hit:=EA t;have hgt:=eu (bP out) (toB ((dj t).getD ([],[])).1) (fD r.1 fun p hp=>(r.2 p hp).2.1) (by rw [bX];omega);have hw1:IntKind.i64.wrap ((st1.at_:Int)+1)=((st1.at_+1:Nat):Int):=by rw [aD (by omega) (by omega)];omega
   clear hb P;have T: ∀e,(V.null,st1.fail e)=R→_:=fun e h=>(h▸rl st1 e:RdA 48 (.int .i64 e) st1 R).two cap m
   refine kW ?_;refine kP [.c [.int .i64 j,.str (toB t)],.v (.tup [.str (toB ((dj t).getD ([],[])).1),.str (toB ((dj t).getD ([],[])).2),.bool (dj t).isSome])] ?_ ?_
   ·((repeat' apply aI)<;>first|exact kD|(intro C;refine ⟨?_,kG⟩;(repeat' apply aI)<;>first|exact kD|skip)|skip)
    all_goals first|exact hat|skip
   refine kW ?_;refine kP [.c [.int .i64 j,.str (toB t)],.v (.bool (dH t))] ?_ ?_
   ·((repeat' apply aI)<;>first|exact kD|(intro C;refine ⟨?_,kG⟩;(repeat' apply aI)<;>first|exact kD|skip)|skip)
    all_goals first|exact hat|skip
   refine kC (fun hb=> ?_) fun hb=> ?_
   ·have h10:(V.null,st1.fail 10)=R:=by
     cases U:dH t with
     |true=>rw [U] at g;exact g
     |false=>
      rw [U] at g hb;rw [if_neg (by simp)] at g;cases hs2:dj t with
      |none=>rw [hs2] at g;exact g
      |some q=>rw [hs2] at hb;simp at hb
    obtain ⟨k1,k2⟩:=T 10 h10;refine kW ?_;refine kP [.s [2000000,2000001] (boxY (R.2) cap m) ((vA (R.1)))] ?_ ?_
    ·((repeat' apply aI)<;>first|exact kD|(intro C;refine ⟨?_,kG⟩;(repeat' apply aI)<;>first|exact kD|skip)|skip)
     all_goals first|exact k1|exact k2 _|skip
    refine kW ?_;refine aR ⟨⟨_,rfl,?_⟩,⟨_,rfl,rfl⟩,⟨_,rfl,aN _ _⟩,trivial⟩;rfl
   ·have U:dH t=false:=by
     cases h:dH t with
     |false=>rfl
     |true=>rw [h] at hb;simp at hb
    have hs2:(dj t).isSome=true:=by
     cases h:(dj t).isSome with
     |true=>rfl
     |false=>rw [h,U] at hb;simp at hb
    obtain ⟨q,hq⟩:=Option.isSome_iff_exists.1 hs2;obtain ⟨key,rest⟩:=q;obtain ⟨z1,z2⟩:=yQ hq;rw [U,if_neg (by simp),hq] at g;simp only at g;rw [hq] at hgt hsp;simp only [Option.getD_some] at hgt hsp;clear hb hs2;rw [hq];simp only [Option.getD_some];have hne:=bH rest;refine kW ?_;refine kQ [.v (.tup [(vA (((aU (toB key) out).getD V.null))),.bool (aU (toB key) out).isSome])] ?_;refine kW ?_;refine kC (fun hb=> ?_) fun hb=> ?_
    ·simp only [hb,if_true] at g
     obtain ⟨k1,k2⟩:=T 13 g;refine kW ?_;refine kP [.s [2000000,2000001] (boxY (R.2) cap m) ((vA (R.1)))] ?_ ?_
     ·((repeat' apply aI)<;>first|exact kD|(intro C;refine ⟨?_,kG⟩;(repeat' apply aI)<;>first|exact kD|skip)|skip)
      all_goals first|exact k1|exact k2 _|skip
     refine kW ?_;refine aR ⟨⟨_,rfl,?_⟩,⟨_,rfl,rfl⟩,⟨_,rfl,aN _ _⟩,trivial⟩;rfl
    ·simp only [hb,Bool.false_eq_true,if_false] at g
     have hms:=fun v=>fe (toB key) v out
     refine kW ?_;rw [hne];refine kC (fun hb=> ?_) fun hb=> ?_
     ·have hnil:rest= []:=by simpa [List.isEmpty_iff] using hb
      rw [if_pos hnil] at g;have hbl:=hB.below (i:=j) (n:=k) (I.next J) (by omega) (by omega);have hro:=dZ k .below j ⟨st1.l,st1.at_+1,st1.bad⟩ (I.next J) (by simp only [dV];omega) trivial;generalize a8 k .below j ⟨st1.l,st1.at_+1,st1.bad⟩=q at*;obtain ⟨v,st2⟩:=q;dsimp only at g;obtain ⟨k1,k2⟩:=hbl.two cap m;have hfit:=hro.fit;have hwle:=hro.w;simp only [dV] at hfit hwle;have hms:=hms v;have hpt:=mI (bP out) (toB key) v (fD r.1 fun p hp=>(r.2 p hp).2.1) (by rw [bX];omega);refine kW ?_;refine kP [.s [2000000,2000001] (boxY (st2) cap m) ((vA (v)))] ?_ ?_
      ·((repeat' apply aI)<;>first|exact kD|(intro C;refine ⟨?_,kG⟩;(repeat' apply aI)<;>first|exact kD|skip)|skip)
       all_goals first|(rw [hw1];exact k1)|exact k2 _|skip
      refine kW ?_;refine kQ [.v ((vA ((bP (ap (toB key) v out)))))] ?_;refine kW ?_;exact AK.lp ⟨(ap (toB key) v out,st2,k),⟨g,hro.inv,by dsimp only;omega,by dsimp only;omega,r.put (by show key.length≤_;omega) hro.ord hro.sb⟩,(wN ⟨kI,kI,kI,kI,trivial⟩ ⟨kJ,kJ,kJ,kJ,trivial⟩ rfl rfl ⟨rfl,fl _ _,trivial⟩),by dsimp only;omega⟩
     ·have hnil:rest≠ []:=by simpa [List.isEmpty_iff] using hb
      rw [if_neg hnil] at g;have hbl:=Cy ⟨st1.l,st1.at_+1,st1.bad⟩ rest (by omega);have hro:=Ev (I.next J) (s:=rest) (by omega);generalize lg rest ⟨st1.l,st1.at_+1,st1.bad⟩=q at*;obtain ⟨v,st2⟩:=q;dsimp only at g hro;obtain ⟨c1,c2,c3,c4,c5,c6⟩:=hro;obtain ⟨k1,k2⟩:=hbl.two cap m;have hms:=hms v;have hpt:=mI (bP out) (toB key) v (fD r.1 fun p hp=>(r.2 p hp).2.1) (by rw [bX];omega);refine kW ?_;refine kP [.s [2000000,2000001] (boxY (st2) cap m) ((vA (v)))] ?_ ?_
      ·((repeat' apply aI)<;>first|exact kD|(intro C;refine ⟨?_,kG⟩;(repeat' apply aI)<;>first|exact kD|skip)|skip)
       all_goals first|(rw [hw1];exact k1)|exact k2 _|skip
      refine kW ?_;refine kQ [.v ((vA ((bP (ap (toB key) v out)))))] ?_;refine kW ?_;exact AK.lp ⟨(ap (toB key) v out,st2,k),⟨g,c3,by dsimp only;omega,by dsimp only;omega,r.put (by show key.length≤_;omega) c1 c2⟩,(wN ⟨kI,kI,kI,kI,trivial⟩ ⟨kJ,kJ,kJ,kJ,trivial⟩ rfl rfl ⟨rfl,fl _ _,trivial⟩),by dsimp only;omega⟩
  ·have hc: ¬(j=i):=fun e1=>by subst e1;simp at hb
   rw [if_neg hc] at g;subst g;refine AK.exit rfl ?_;refine kW ?_;refine aR ⟨⟨_,rfl,?_⟩,⟨_,rfl,rfl⟩,⟨_,rfl,aN _ _⟩,trivial⟩;rfl
theorem EM: ∀N,N≤100000001→BlkOk N
 |0,_=>fun st i n j t g p hi r hn=>by
  have:=YR.w_at p;omega
 |N+1,C=>fun st i n j t g p hi r hn=>by
  obtain ⟨k,rfl⟩: ∃k,n=k+1:=⟨n-1,by omega⟩
  exact Ln st i k g p (M5 (EM N (by omega)) (by omega) st i k g hi r (by omega)) (Lo (EM N (by omega)) (by omega) st i k g hi r (by omega))
end
section
open Go.RowKit
theorem JG (c:UInt8) (s:ByteArray):((cj c s).map (·.size)).sum≤s.size:=by
 have key: ∀(k:Nat) (s:ByteArray),((Lib.splitB ⟨#[c]⟩ 0 k s).map (·.size)).sum≤s.size:=by
  intro k
  induction k with
  |zero=>intro s;simp [Lib.splitB]
  |succ k ih=>
   intro s;rw [Lib.splitB];split
   ·simp
   ·have h:=ih (s.extract ((Lib.indexB s ⟨#[c]⟩).toNat+(⟨#[c]⟩:ByteArray).size) s.size)
    have e:(⟨#[c]⟩:ByteArray).size=1:=rfl;rw [ByteArray.size_extract] at h;rw [List.map_cons,List.sum_cons,ByteArray.size_extract];omega
 exact key _ _
theorem Cz {x:Bs} {y:Nat×Bs} (h:gf x=some (some y)):y.1+y.2.length≤x.length:=by
 unfold gf at h;have g:=dl (tr (cP x));have j:=iI (cP x);have p:(cP x).length≤x.length:=by unfold cP;rw [gA7];omega
 split at h
 ·cases h
 ·rename_i c t i
  rw [i] at g;split at h
  ·cases h
  ·cases h
   simp only [gA3] at g⊢;omega
theorem yW: ∀{l:List Bs} {r:List (Nat×Bs)},bJ l=some r→wAt r≤(l.map fun x=>x.length).sum+l.length∧ ∀y∈r,y.1+y.2.length≤(l.map fun x=>x.length).sum
 | [],r,h=>by cases h;exact ⟨gA4 _,fun y hy=>by cases hy⟩
 |x::l,r,h=>by
  rw [bJ] at h;cases g:gf x with
  |none=>rw [g] at h;cases h
  |some o=>
   rw [g] at h;cases hl:bJ l with
   |none=>rw [hl] at h;cases h
   |some p=>
    rw [hl] at h;cases h;obtain ⟨j,i⟩:=yW hl;rw [List.map_cons,List.sum_cons,gA3];cases o with
    |none=>
     refine ⟨?_,fun y hy=> ?_⟩
     ·show wAt p≤_
      omega
     ·have:=i y hy
      omega
    |some z=>
     have C:=Cz g;refine ⟨?_,fun y hy=> ?_⟩
     ·show wAt (z::p)≤_
      rw [show wAt (z::p)=z.2.length+1+wAt p from by simp [wAt]];omega
     ·rcases gB2 (show y∈z::p from hy) with rfl|hy
      ·omega
      ·have:=i y hy
       omega
theorem Hz {s:ByteArray} {g:List (Nat×Bs)} (h:kc s=some g):wAt g≤2*s.size+1∧(∀y∈g,y.1+y.2.length≤s.size)∧g.length≤s.size+1:=by
 obtain ⟨i,j⟩:=yW h;have p:=oG h;have r:=JG 10 s;have C:=pT 10 s
 have e:((cj 10 s).map fun x=>x.data.toList).map (fun x=>x.length)=(cj 10 s).map (·.size):=by
  rw [List.map_map];rfl
 rw [e] at i j;rw [List.length_map] at i p;exact ⟨by omega,fun y hy=>by have:=j y hy;omega,by omega⟩
def wv (i:Nat):Nat:=if i=2000000 then 28 else if i=28 then 2000000 else if i=2000001 then 1000100 else if i=1000100 then 2000001 else i
theorem JH (i j:Nat) (h:wv i=wv j):i=j:=by
 unfold wv at h
 repeat' split at h
 all_goals omega
theorem Lp (i:Nat):kd (wv i)=kd i:=by
 unfold wv
 repeat' split
 all_goals first|(subst_vars;rfl)|rfl
theorem JI (ρ:Nat→Nat) (l:List (Nat×Bs)) (m:Nat):(eX l m).map (AV.ren ρ)=eX l m:=by
 refine (List.map_congr_left fun x g=> ?_).trans (List.map_id _);rcases jl g with ⟨n,rfl⟩|⟨s,rfl⟩|rfl<;>rfl
abbrev boxP (st:YR) (cap m:Nat):List (Nat×List AV):= [(28,[.sli 1000100 2 st.l.length cap,.int .i64 (st.at_:Int),.int .i64 st.bad]),(1000100,eX st.l m)]
theorem CA (st:YR) (cap m:Nat):qH wv (boxY st cap m)=boxP st cap m:=by
 show [(wv 2000000,[AV.sli (wv 2000001) 2 st.l.length cap,_,_]),(wv 2000001,(eX st.l m).map (AV.ren wv))]=_;rw [JI];rfl
theorem NK (st:YR) (cap m:Nat) (v:V) (b:Nat→Option (List AV×Bool)):(okS [28,1000100] (boxP st cap m) ((vA (v)))&&bf b (au [28,1000100] (boxP st cap m)))=true:=by
 have h:(eX st.l m).all (AV.inS (aw (boxP st cap m)))=true:=List.all_eq_true.2 fun x g=>by
  rcases jl g with ⟨n,rfl⟩|⟨s,rfl⟩|rfl<;>rfl
 unfold okS;simp only [List.all_cons,List.all_nil,h];rfl
theorem RdA.own {f:FuncId} {n:Int} {st:YR} {R:V×YR} (h:RdA f (.int .i64 n) st R) (cap m:Nat):MS Tryz.prog f [(28,[.sli 1000100 2 st.l.length cap,.int .i64 (st.at_:Int),.int .i64 st.bad]),(1000100,(eX st.l m).map AV.told)] [.np 28 0,.int .i64 n] (boxP R.2 cap m) ((vA (R.1)))∧ ∀b,(okS [28,1000100] (boxP R.2 cap m) ((vA (R.1)))&&bf b (au [28,1000100] (boxP R.2 cap m)))=true:=by
 rw [aN];have g:=(h cap m).ren wv JH Lp;rw [CA,CA] at g;exact ⟨g,fun b=>NK _ _ _ _ _⟩
theorem uC (s:ByteArray):AC Tryz.prog 13 [.str s] (.tup [(vA ((aY s).1)),.int .i64 (aY s).2]):=by
 generalize g:aY s=R;unfold aY at g;refine kE Tryz.func13 tJ tK fun E hE=> ?_
 refine kW ?_;refine kC (fun hb=> ?_) fun hb=> ?_
 ·have J:65536<s.size:=by
   have:(s.size:Int)>65536:=by simpa using hb
   omega
  rw [if_pos J] at g;subst g;refine kW ?_;refine aR ⟨_,rfl,?_⟩;rfl
 have J: ¬65536<s.size:=by
  have: ¬(s.size:Int)>65536:=by simpa using hb
  omega
 rw [if_neg J] at g;rw [show bJ ((cj 10 s).map fun x=>x.data.toList)=kc s from rfl] at g;refine kW ?_;cases j:kc s with
 |none=>
  rw [j] at g;dsimp only at g;subst g;have h:=EB s (by omega) j;refine kQ [.v (.tup [.lst .any 2 [],.int .i64 12])] ?_;refine kW ?_;refine kC (fun hb=> ?_) fun hb=> ?_
  ·refine kW ?_
   refine aR ⟨_,rfl,?_⟩;rfl
  ·cases hb
 |some ls=>
  rw [j] at g;dsimp only at g;cases ls with
  |nil=>
   subst g;have h:=Hq s (by omega) j;have hN:=oC;refine kQ [.v (.tup [.lst .any 2 [],.int .i64 0])] ?_;refine kW ?_;refine kC (fun hb=> ?_) fun hb=> ?_
   ·cases hb
   ·refine kW ?_
    refine kC (fun hb=> ?_) fun hb=> ?_
    ·refine kW ?_
     refine kQ [.v ((vA (V.null)))] ?_;refine kW ?_;refine aR ⟨_,rfl,?_⟩;rfl
    ·cases hb
  |cons x l=>
   have h:=Jz s (by omega) j (by simp);obtain ⟨b1,b2,b3⟩:=Hz j;refine kQ [.t 2 (lW (x::l)) [.int .i64 0]] ?_;refine kW ?_;refine kC (fun hb=> ?_) fun hb=> ?_
   ·cases hb
   ·refine kW ?_
    refine kC (fun hb=> ?_) fun hb=> ?_
    ·simp [ke] at hb
     omega
    ·clear hb
     obtain ⟨i,t⟩:=x;have hi:=b2 (i,t) (by simp);simp only at hi;have P:(lW ((i,t)::l)).length=l.length+1:=ke _;have hI:YInv ⟨(i,t)::l,0,0⟩:=⟨gB8 _,by simp only [gA3] at b3⊢;omega,fun y hy=>by have:=b2 y hy;omega⟩
     have hwy:(YR.mk ((i,t)::l) 0 0).w=wAt ((i,t)::l):=rfl;have hblk:=EM 1000000 (by omega) ⟨(i,t)::l,0,0⟩ i (3*wAt ((i,t)::l)+3) i t hI rfl (by omega) (by omega) (by omega);have hro:=dZ (3*wAt ((i,t)::l)+3) .block i ⟨(i,t)::l,0,0⟩ hI (by simp only [dV];omega) trivial;unfold Eu at g;dsimp only at g;generalize a8 (3*wAt ((i,t)::l)+3) .block i ⟨(i,t)::l,0,0⟩=q at*;obtain ⟨v,st⟩:=q;dsimp only at g;have C:=hro.fit;have hlen:=hro.len;simp only [dV] at C hlen;have hchk:=sI v hro.sb (by omega);refine AK.open 4 15 1000100 rfl (by omega) rfl fun cap m hcap hcl=> ?_
     obtain ⟨k1,k2⟩:=hblk.own cap m;refine AK.weak (fr' :=ar [(2,.ptr 2 0),(3,.int .i64 0),(4,.sli 1000100 2 (l.length+1) cap)]) (st' :=⟨ag [(2,[.int .i64 0,.bool false,.int .i64 0,.str ⟨#[]⟩,.lst .nil 6 [],.lst .nil 7 []],false),(1000100,eX ((i,t)::l) m,false)],fun _=>0⟩) (wN ⟨kI,kI,⟨_,rfl,.of_eq (congrArg (fun z=>AV.sli 1000100 2 z cap) P)⟩,trivial⟩ ⟨kJ,⟨_,rfl,aJz rfl⟩,trivial⟩ rfl rfl ⟨fl _ _,trivial⟩) ?_;refine kW ?_;refine kP [.c [.int .i64 i,.str (toB t)],.s [28,1000100] (boxP st cap m) ((vA (v)))] ?_ ?_
     ·((repeat' apply aI)<;>first|exact kD|(intro T;refine ⟨?_,kG⟩;(repeat' apply aI)<;>first|exact kD|skip)|skip)
      all_goals first|exact rfl|exact k1|exact k2 _|skip
     clear k1 k2 hblk;simp only [gA3] at hlen g;refine kW ?_;refine kQ [] ?_;refine kC (fun hb=> ?_) fun hb=> ?_
     ·have p:st.bad=0∧st.at_<l.length+1:=by
       have U:st.bad=0∧(st.at_:Int)<((l.length+1:Nat):Int):=by simpa using hb
       exact ⟨U.1,by omega⟩
      rw [if_neg (by simp [p.1]),if_pos p.2] at g;subst g;obtain ⟨f1,f2⟩:=(rl st 10).own cap m;have e1:(st.fail 10).bad=10:=by unfold YR.fail;rw [if_pos p.1]
      refine kW ?_;refine kP [.s [28,1000100] (boxP (st.fail 10) cap m) ((vA (V.null)))] ?_ ?_
      ·((repeat' apply aI)<;>first|exact kD|(intro T;refine ⟨?_,kG⟩;(repeat' apply aI)<;>first|exact kD|skip)|skip)
       all_goals first|exact f1|exact f2 _|skip
      refine kW ?_;rw [e1];refine kC (fun hb=> ?_) fun hb=> ?_
      ·refine kW ?_
       refine AK.rega fw0 [] (ar [(2,.ptr 2 0),(3,.int .i64 (st.fail 10).bad)]) ⟨ag [(2,[.int .i64 0,.bool false,.int .i64 0,.str ⟨#[]⟩,.lst .nil 6 [],.lst .nil 7 []],false)],fun _=>0⟩ ?_ ?_
       ·(repeat' (first|exact trivial|apply aI))
        all_goals exact wO ⟨kI,kI,trivial⟩ ⟨kJ,trivial⟩ rfl rfl
       refine kW ?_;refine aR ⟨_,rfl,?_⟩;rw [e1];rfl
      ·simp at hb
     ·refine kW ?_
      refine kC (fun hb=> ?_) fun hb=> ?_
      ·have p:st.bad≠0:=by simpa using hb
       rw [if_pos p] at g;subst g;refine kW ?_;refine AK.rega fw0 [] (ar [(2,.ptr 2 0),(3,.int .i64 st.bad)]) ⟨ag [(2,[.int .i64 0,.bool false,.int .i64 0,.str ⟨#[]⟩,.lst .nil 6 [],.lst .nil 7 []],false)],fun _=>0⟩ ?_ ?_
       ·(repeat' (first|exact trivial|apply aI))
        all_goals exact wO ⟨kI,kI,trivial⟩ ⟨kJ,trivial⟩ rfl rfl
       refine kW ?_;refine aR ⟨_,rfl,?_⟩;rfl
      ·rename_i r
       have p:st.bad=0:=by simpa using hb
       have U: ¬st.at_<l.length+1:=fun h=>by
        have I:(st.at_:Int)<((l.length+1:Nat):Int):=by omega
        rw [p] at r;have h4:decide ((st.at_:Int)<((l.length+1:Nat):Int))=true:=decide_eq_true I;rw [h4] at r;simp at r
       rw [if_neg (by simp [p]),if_neg U] at g;refine kW ?_;refine kQ [.v (.int .i64 v.checkC)] ?_;refine kW ?_;refine kC (fun hb=> ?_) fun hb=> ?_
       ·have I:v.checkC≠0:=by simpa using hb
        rw [if_pos I] at g;subst g;refine kW ?_;refine aR ⟨_,rfl,?_⟩;rfl
       ·have I:v.checkC=0:=by simpa using hb
        rw [if_neg (by simp [I])] at g;subst g;refine kW ?_;refine aR ⟨_,rfl,?_⟩;rfl
end
end Go.Proofs.YtbgflifmanjpjaaGreatDoor
