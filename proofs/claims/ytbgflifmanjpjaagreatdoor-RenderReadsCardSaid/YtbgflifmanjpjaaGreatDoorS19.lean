/- Part 19. -/
import Derived.Test.YtbgflifmanjpjaaGreatDoorS18
set_option linter.unusedSimpArgs false
set_option linter.unusedVariables false
namespace Go.Proofs.YtbgflifmanjpjaaGreatDoor
open Go.RowKit
theorem wo:AC Tryz.prog 147 [.lst .any 6 []] (.agg [.int .i64 4,.bool false,.int .i64 0,.str ⟨#[]⟩,.lst .nil 6 [],.lst .nil 7 []]):=by
 refine AC.enterR Tryz.func147 vP vQ (by rfl) fun E g=> ?_
 show AK _ _ _ [.c lM] _ _;rw [lM];refine kW ?_;refine aJ (fun i:Nat=>(ar [(2,.ptr 2 0),(3,.ptr 3 0),(7,.lst .any 6 []),(8,.int .i64 0),(9,.int .i64 i)],⟨ag [(2,[.int .i64 0,.bool false,.int .i64 0,.str ⟨#[]⟩,.lst .nil 6 [],.lst .nil 7 []],false),(3,[.int .i64 4,.bool false,.int .i64 0,.str ⟨#[]⟩,.lst .nil 6 [],.lst .nil 7 []],false)],fun _=>0⟩)) (fun i=>i≤0) (fun i=>0-i) 0 (by omega) (wO ⟨kI,kI,kI,kI,kI,trivial⟩ ⟨kJ,kJ,trivial⟩ rfl rfl) fun i hi=> ?_
 refine kW ?_;refine kC (fun hb=> ?_) fun hb=> ?_
 ·exfalso
  have:(i:Int)<0:=by simpa using hb
  omega
 ·refine AK.exit rfl ?_
  refine kW ?_;refine aR ⟨_,rfl,?_⟩;rfl
def fA (r:V×Bs×Int):AV:= .tup [(vA (r.1)),.str (toB r.2.1),.int .i64 r.2.2]
def JA (n:Nat):Bs→V×Bs×Int
 | []=>bD n (.flow []) []
 |d::u=>if d=93 then (jg [],tl u,0) else bD n (.flow []) (d::u)
def JB (n:Nat):Bs→V×Bs×Int
 | []=>bD n (.braces []) []
 |d::u=>if d=125 then (bP [],tl u,0) else bD n (.braces []) (d::u)
def yT (n:Nat) (t:Bs):V×Bs×Int:=JA n (tl t)
def yU (n:Nat) (t:Bs):V×Bs×Int:=JB n (tl t)
def bE (c:UInt8):Bs→Bool
 | []=>false
 |d::_=>d==c
theorem fg (l:Bs) (c:UInt8):AC Tryz.prog 42 [.str (toB l),.str ⟨#[c]⟩] (.bool (bE c l)):=by
 have h:=sB (toB l) ⟨#[c]⟩;rw [jk] at h;exact h
def JC (N:Nat):Prop:= ∀(n:Nat) (ends s:Bs),s.length≤N→2*s.length+1≤n→AC Tryz.prog 149 [.str (toB s),.str (toB ends)] (fA (bD n (.one ends) s))
theorem kf (l:List V) (x:V):aL (l++ [x])=aL l++ [oA x]:=by
 induction l with
 |nil=>simp [aL]
 |cons y l ih=>simp [aL,ih]
theorem xX (c:UInt8) (u:Bs):(toB (c::u)).extract (1:Int).toNat ((toB (c::u)).size:Int).toNat=toB u:=fE (c::u) 1
theorem M1 {N:Nat} (hP:JC N) (hN:N≤1000000) (n:Nat) (t:Bs) (ht:t.length≤N) (hn:2*t.length+2≤n):AC Tryz.prog 201 [.str (toB t)] (fA (yT n t)):=by
 have hl:=wo;have P:=m7 t;have htz:=dl t;have hp:=fg (tl t) 93;unfold yT;refine kE Tryz.func201 wi wj fun E hE=> ?_
 refine kW ?_;refine kQ [.v (.agg [.int .i64 4,.bool false,.int .i64 0,.str ⟨#[]⟩,.lst .nil 6 [],.lst .nil 7 []])] ?_;refine kW ?_;refine kQ [.v (.str (toB (tl t)))] ?_;refine kW ?_;generalize tl t=s0 at*;refine kQ [.v (.bool (bE 93 s0))] ?_;refine kC (fun hb=> ?_) fun hb=> ?_
 ·cases s0 with
  |nil=>cases hb
  |cons d u=>
   have hd:d=93:=by simpa [bE] using hb
   subst hd;rw [JA,if_pos rfl];have T:=m7 u;have hsz:(toB ((93:UInt8)::u)).size=u.length+1:=rfl;refine kW ?_;refine kP [.v (.str (toB (tl u)))] ?_ ?_
   ·((repeat' apply aI)<;>first|exact kD|(intro p;refine ⟨?_,kG⟩;(repeat' apply aI)<;>first|exact kD|skip)|skip)
    all_goals first|(rw [hsz];omega)|(rw [xX];exact T)|skip
   refine kW ?_;refine aR ⟨_,rfl,?_⟩;rfl
 ·have g:JA n s0=bD n (.flow []) s0:=by
   cases s0 with
   |nil=>rfl
   |cons d u=>exact if_neg (by simpa [bE] using hb)
  rw [g];clear g hb hp P;generalize U:bD n (.flow []) s0=R;refine kW ?_
  refine aJ (fun i:(Nat→Nat)×List V×Bs×Nat=>(ar [(0,.str (toB i.2.2.1)),(2,.ptr 2 0),(3,.str ⟨#[]⟩),(4,.int .i64 0),(5,.ptr 5 0)],⟨ag [(2,[.int .i64 0,.bool false,.int .i64 0,.str ⟨#[]⟩,.lst .nil 6 [],.lst .nil 7 []],false),(5,[.int .i64 4,.bool false,.int .i64 0,.str ⟨#[]⟩,.lst (.own 32 (i.1 32)) 6 (aL i.2.1),.lst .nil 7 []],false)],i.1⟩))
   (fun i=>bD i.2.2.2 (.flow i.2.1) i.2.2.1=R∧i.2.2.1.length≤N∧2*i.2.2.1.length+2≤i.2.2.2∧aK i.2.1+i.2.2.1.length≤N∧RdL i.2.1) (fun i=>i.2.2.1.length) (fun _=>0,[],s0,n) ⟨U,by dsimp only;omega,by dsimp only;omega,by dsimp only [aK];omega,fun x hx=>by cases hx⟩
   (wO ⟨kI,kI,kI,kI,kI,trivial⟩ ⟨kJ,⟨_,rfl,.refl _,.refl _,.refl _,.refl _,.own _ _ _ _,.refl _,trivial⟩,trivial⟩ rfl rfl) fun ⟨r,out,s,m⟩ ⟨g,hs,hm,hz,I⟩=> ?_
  dsimp only at g hs hm hz I;obtain ⟨m,rfl⟩: ∃k,m=k+1:=⟨m-1,by omega⟩
  have hone:=hP m [44,93] s hs (by omega);have C:=dY m (.one [44,93]) s (by omega) (by simp only [cu];omega) trivial
  have J:bD (m+1) (.flow out) s=(match bD m (.one [44,93]) s with
   |(v,rest,e)=>if e≠0 then (V.null,[],e) else match rest with
    | []=>(V.null,[],10)
    |c::u=>if c=93 then (jg (out++ [v]),tl u,0) else if c=44 then bD m (.flow (out++ [v])) u else (V.null,[],10)):=rfl
  rw [J] at g;generalize bD m (.one [44,93]) s=q at*;obtain ⟨v,rest,e⟩:=q;dsimp only at g;refine kW ?_;refine kQ [.v (fA (v,rest,e))] ?_;refine kW ?_;refine kC (fun hb=> ?_) fun hb=> ?_
  ·have he:e≠0:=by simpa using hb
   rw [if_pos he] at g;refine kW ?_;refine aR ⟨_,rfl,?_⟩;rw [←g];rfl
  ·have he:e=0:=by simpa using hb
   subst he;rw [if_neg (by simp)] at g;have hf:=C.fit rfl;simp only [cu] at hf;have hll:=br out;have hv1:=v.size_pos;have hp1:=fg rest 93;have hp2:=fg rest 44;have hsz1:aK (out++ [v])=aK out+v.size:=by rw [cG];simp [aK]
   refine kW ?_;refine kP [] ?_ ?_
   ·((repeat' apply aI)<;>first|exact kD|(intro p;refine ⟨?_,kG⟩;(repeat' apply aI)<;>first|exact kD|skip)|skip)
    all_goals simp only [aB,List.length_nil,gA3]
    all_goals omega
   refine kW ?_;refine kQ [.v (.bool (bE 93 rest))] ?_;cases rest with
   |nil=>
    refine kC (fun hb=> ?_) fun hb=> ?_
    ·cases hb
    ·refine kW ?_
     refine kQ [.v (.bool false)] ?_;refine kW ?_;refine kC (fun hb=> ?_) fun hb=> ?_
     ·refine kW ?_
      refine aR ⟨_,rfl,?_⟩;rw [←g];rfl
     ·simp at hb
   |cons c u=>
    have hsz:(toB (c::u)).size=u.length+1:=rfl;have T:=m7 u;simp only [gA3] at hf;dsimp only at g;refine kC (fun hb=> ?_) fun hb=> ?_
    ·have hc:c=93:=by simpa [bE] using hb
     rw [if_pos hc] at g;refine kW ?_;refine kP [.v (.str (toB (tl u)))] ?_ ?_
     ·((repeat' apply aI)<;>first|exact kD|(intro p;refine ⟨?_,kG⟩;(repeat' apply aI)<;>first|exact kD|skip)|skip)
      all_goals first|(rw [hsz];omega)|(rw [xX];exact T)|skip
     refine kW ?_;refine aR ⟨_,rfl,?_⟩;rw [←g];have e1:=kf out v;rw [b9] at e1;show _=AV.tup [.agg [_,_,_,_,.lst .any 6 (aL (out++ [v])),_],_,_];rw [e1];rfl
    ·have hc:c≠93:=by simpa [bE] using hb
     rw [if_neg hc] at g;refine kW ?_;refine kQ [.v (.bool (c==44))] ?_;by_cases j:c=44
     ·rw [if_pos j] at g
      refine kW ?_;refine kC (fun hb=> ?_) fun hb=> ?_
      ·simp [j] at hb
      ·refine kW ?_
       refine kP [] ?_ ?_
       ·((repeat' apply aI)<;>first|exact kD|(intro p;refine ⟨?_,kG⟩;(repeat' apply aI)<;>first|exact kD|skip)|skip)
        all_goals (rw [hsz];omega)
       refine kW ?_;rw [xX];refine AK.lp ⟨(_,out++ [v],u,m),⟨g,by dsimp only;omega,by dsimp only;omega,by dsimp only;omega,I.snoc C.ord C.sb⟩,(wO ⟨kI,kI,kI,kI,kI,trivial⟩ ⟨kJ,⟨_,rfl,.refl _,.refl _,.refl _,.refl _,?_,.refl _,trivial⟩,trivial⟩ rfl rfl),by dsimp only;omega⟩;rw [kf,b9];exact .refl _
     ·rw [if_neg j] at g
      refine kW ?_;refine kC (fun hb=> ?_) fun hb=> ?_
      ·refine kW ?_
       refine aR ⟨_,rfl,?_⟩;rw [←g];rfl
      ·simp [j] at hb
theorem M2 (s p:ByteArray):AC Tryz.prog 214 [.str s,.str p] (.tup [.str (fC s p),.bool (gc s p)]):=by
 have h:=Ai s p;refine kE Tryz.func214 gJ gK fun E j=> ?_
 refine kW ?_;refine kQ [.v (.bool (gc s p))] ?_;refine kW ?_;refine kC (fun hb=> ?_) fun hb=> ?_
 ·have g:gc s p=false:=by simpa using hb
  refine kW ?_;refine aR ⟨_,rfl,?_⟩;rw [fC,if_neg (by rw [g];simp),g];rfl
 ·have g:gc s p=true:=by simpa using hb
  have i:p.size≤s.size:=by
   rw [gc,gA9,gB0] at g;exact g.1
  refine kW ?_;refine kQ [] ?_;refine kW ?_;refine aR ⟨_,rfl,?_⟩;rw [fC,if_pos g,g];rfl
theorem NI (s p:ByteArray):AC Tryz.prog 161 [.str s,.str p] (.tup [.str (fC s p),.bool (gc s p)]):=by
 have h:=M2 s p;refine kE Tryz.func161 j0 j2 fun E g=> ?_
 refine kW ?_;refine kQ [.v (.tup [.str (fC s p),.bool (gc s p)])] ?_;refine kW ?_;refine aR ⟨_,rfl,?_⟩;rfl
theorem Hs (c:UInt8) (l:Bs) (h:bE c l=true): ∃u,l=c::u∧fC (toB l) ⟨#[c]⟩=toB u:=by
 cases l with
 |nil=>cases h
 |cons d u=>
  have g:d=c:=by simpa [bE] using h
  subst g;refine ⟨u,rfl,?_⟩;rw [fC,if_pos (by rw [jk];simp)];exact fE (d::u) 1
theorem rf (l:Bs) (c:UInt8) (hl:l.length≤1000000):AC Tryz.prog 175 [.str (toB l),.str ⟨#[c]⟩] (.bool (l.contains c)):=by
 have h:AC Tryz.prog 175 [.str (toB l),.str ⟨#[c]⟩] (.bool (decide (0≤Lib.indexByte l c))):=AC.of2 (by kernel_rfl) (fun _=>Rel1.bool _) fun w _=>Tryz.strings_Contains_one (toB l) c w
 rw [Az] at h;exact h
theorem M3 (l:Bs) (hl:l.length≤1000000):AC Tryz.prog 71 [.str (toB l),.str ⟨#[58]⟩] (if Lib.indexByte l 58= -1 then .tup [.str (toB l),.str (toB []),.bool false] else .tup [.str (toB (l.take (Lib.indexByte l 58).toNat)),.str (toB (l.drop ((Lib.indexByte l 58).toNat+1))),.bool true]):=by
 have h:=NH (toB l) 58 (by rw [ae];omega);rw [pQ,jj] at h;rcases mG l 58 with ⟨g,_⟩|⟨i,g,j,_⟩
 ·rw [g] at h⊢
  rw [if_pos rfl] at h⊢;exact h
 ·rw [g] at h⊢
  rw [if_neg (by omega)] at h⊢;simp only [Int.toNat_natCast] at h⊢;rw [wm l i (by omega),fE] at h;exact h
def wq (m:Nat) (out:List (ByteArray×V)):Bs×Bs×Int→V×Bs×Int
 |(key,rest,k)=>if k≠0 then (V.null,[],k) else if (aU (toB key) out).isSome=true then (V.null,[],13) else match bD m (.one [44,125]) rest with
  |(v,more,e)=>if e≠0 then (V.null,[],e) else match more with
   | []=>(V.null,[],10)
   |c::u=>if c=125 then (bP (ap (toB key) v out),tl u,0) else if c=44 then bD m (.braces (ap (toB key) v out)) u else (V.null,[],10)
theorem JD {N:Nat} (hP:JC N) (hN:N≤1000000) (n:Nat) (t:Bs) (ht:t.length≤N) (hn:2*t.length+2≤n):AC Tryz.prog 202 [.str (toB t)] (fA (yU n t)):=by
 have hmm:=fc [] (by simp [aA]);have htl:=m7 t;have htz:=dl t;have hp:=fg (tl t) 125;unfold yU;refine kE Tryz.func202 rb rc fun E hE=> ?_
 refine kW ?_;refine kQ [.v ((vA ((bP []))))] ?_;refine kW ?_;refine kQ [.v (.str (toB (tl t)))] ?_;refine kW ?_;generalize tl t=s0 at*;refine kQ [.v (.bool (bE 125 s0))] ?_;refine kC (fun hb=> ?_) fun hb=> ?_
 ·cases s0 with
  |nil=>cases hb
  |cons d u=>
   have hd:d=125:=by simpa [bE] using hb
   subst hd;rw [JB,if_pos rfl];have h2:=m7 u;have hsz:(toB ((125:UInt8)::u)).size=u.length+1:=rfl;refine kW ?_;refine kP [.v (.str (toB (tl u)))] ?_ ?_
   ·((repeat' apply aI)<;>first|exact kD|(intro hgd;refine ⟨?_,kG⟩;(repeat' apply aI)<;>first|exact kD|skip)|skip)
    all_goals first|(rw [hsz];omega)|(rw [xX];exact h2)|skip
   refine kW ?_;refine aR ⟨_,rfl,?_⟩;rfl
 ·have g:JB n s0=bD n (.braces []) s0:=by
   cases s0 with
   |nil=>rfl
   |cons d u=>exact if_neg (by simpa [bE] using hb)
  rw [g];clear g hb hp htl;generalize hRR:bD n (.braces []) s0=R;refine kW ?_
  refine aJ (fun i:List (ByteArray×V)×Bs×Nat=>(ar [(0,.str (toB i.2.1)),(2,.ptr 2 0),(3,.str ⟨#[]⟩),(4,.int .i64 0),(5,.ptr 5 0)],⟨ag [(2,[.int .i64 0,.bool false,.int .i64 0,.str ⟨#[]⟩,.lst .nil 6 [],.lst .nil 7 []],false),(5,(vC ((bP i.1))),false)],fun _=>0⟩))
   (fun i=>bD i.2.2 (.braces i.1) i.2.1=R∧i.2.1.length≤N∧2*i.2.1.length+2≤i.2.2∧aA i.1+i.2.1.length≤N∧RdM i.1) (fun i=>i.2.1.length) ([],s0,n) ⟨hRR,by dsimp only;omega,by dsimp only;omega,by dsimp only [aA];omega,List.Pairwise.nil,fun x hx=>by cases hx⟩
   (wO ⟨kI,kI,kI,kI,kI,trivial⟩ ⟨kJ,kJ,trivial⟩ rfl rfl) fun ⟨out,s,m⟩ ⟨g,hs,hm,hz,J⟩=> ?_
  dsimp only at g hs hm hz J;obtain ⟨m,rfl⟩: ∃k,m=k+1:=⟨m-1,by omega⟩
  have htl:=m7 s;have htz2:=dl s;have hunf:bD (m+1) (.braces out) s=wq m out (ra (tl s)):=rfl;rw [hunf] at g;clear hunf;refine kW ?_;refine kQ [.v (.str (toB (tl s)))] ?_;refine kW ?_;generalize tl s=C at*;have hs1:C.length≤1000000:=by omega
  have P:=M3 C hs1;have hu:=jf (toB C) (by rw [ae];omega);rw [Ao,jj] at hu;have hq:=wn C
  obtain ⟨a,b,ok,j,P⟩: ∃a b ok,(if Lib.indexByte C 58= -1 then AV.tup [.str (toB C),.str (toB []),.bool false] else .tup [.str (toB (C.take (Lib.indexByte C 58).toNat)),.str (toB (C.drop ((Lib.indexByte C 58).toNat+1))),.bool true])= .tup [.str (toB a),.str (toB b),.bool ok]∧(a.length≤C.length∧AC Tryz.prog 71 [.str (toB C),.str ⟨#[58]⟩] (.tup [.str (toB a),.str (toB b),.bool ok])):=by
   split
   ·rename_i hi;rw [if_pos hi] at P;exact ⟨_,_,_,rfl,gA4 _,P⟩
   ·rename_i hi;rw [if_neg hi] at P;exact ⟨_,_,_,rfl,by rw [gA7];omega,P⟩
  obtain ⟨hal,P⟩:=P;have htr:=Cr a (by omega);have hod:=yR (tr a);have htrz:=iI a;have hc1:=rf (tr a) 44 (by omega);have hc2:=rf (tr a) 93 (by omega);have hc3:=rf (tr a) 125 (by omega);refine kQ [.v (.tup [.str (toB a),.str (toB b),.bool ok])] ?_;refine kW ?_;refine kQ [.v (.str (toB (tr a)))] ?_;refine kW ?_;refine kP [] ?_ ?_
  ·((repeat' apply aI)<;>first|exact kD|(intro hgd;refine ⟨?_,kG⟩;(repeat' apply aI)<;>first|exact kD|skip)|skip)
   all_goals
    cases C with
    |nil=>simp [gd,bH] at hgd
    |cons c l=>rw [ae,gA3];omega
  refine kC (fun hb=> ?_) fun hb=> ?_
  ·rw [hq] at hb
   have hqt:=hb;refine kW ?_;cases hx:lU C with
   |none=>
    have I:ra C=([],[],11):=by rw [ra,if_pos hqt,hx]
    rw [I,wq,if_pos (by decide)] at g;rw [hx] at hu;simp only [qA] at hu;refine kQ [.v (.tup [.str ⟨#[]⟩,.str ⟨#[]⟩,.int .i64 11])] ?_;refine kW ?_;refine kC (fun hb=> ?_) fun hb=> ?_
    ·refine kW ?_
     refine aR ⟨_,rfl,?_⟩;rw [←g];rfl
    ·simp at hb
   |some p=>
    obtain ⟨key,rest⟩:=p;rw [hx] at hu;simp only [qA] at hu;have hz2:=ir hx;have hcp:=NI (toB rest) ⟨#[58]⟩;refine kQ [.v (.tup [.str ⟨key.toArray⟩,.str ⟨rest.toArray⟩,.int .i64 0])] ?_;refine kW ?_;refine kC (fun hb=> ?_) fun hb=> ?_
    ·simp at hb
    ·refine kW ?_
     cases hh:bE 58 rest with
     |false=>
      have hh2:gc (toB rest) ⟨#[58]⟩=false:=by rw [jk];exact hh
      rw [hh2] at hcp
      have I:ra C=([],[],10):=by
       rw [ra,if_pos hqt,hx];cases rest with
       |nil=>rfl
       |cons c r=>simp [show¬c=58 by simpa [bE] using hh]
      rw [I,wq,if_pos (by decide)] at g;refine kQ [.v (.tup [.str (fC (toB rest) ⟨#[58]⟩),.bool false])] ?_;refine kW ?_;refine kC (fun hb=> ?_) fun hb=> ?_
      ·refine kW ?_
       refine aR ⟨_,rfl,?_⟩;rw [←g];rfl
      ·simp at hb
     |true=>
      obtain ⟨u,rfl,hcu⟩:=Hs 58 rest hh;have hh2:gc (toB (58::u)) ⟨#[58]⟩=true:=by rw [jk];simp
      rw [hh2,hcu] at hcp;simp only [gA3] at hz2;have I:ra C=(key,u,0):=by rw [ra,if_pos hqt,hx];simp
      rw [I,wq,if_neg (by simp)] at g;refine kQ [.v (.tup [.str (toB u),.bool true])] ?_;clear hcp hh hh2 hcu hu P htr hod hc1 hc2 hc3 hq I hx hb;generalize hrest:u=rest at*;have hgt:=eu (bP out) (toB key) (fD J.1 fun p hp=>(J.2 p hp).2.1) (by rw [bX];omega);refine kW ?_;refine kC (fun hb=> ?_) fun hb=> ?_
      ·simp at hb
      ·refine kW ?_
       refine kQ [.v (.tup [(vA (((aU (toB key) out).getD V.null))),.bool (aU (toB key) out).isSome])] ?_;refine kW ?_;refine kC (fun hb=> ?_) fun hb=> ?_
       ·rw [if_pos hb] at g
        refine kW ?_;refine aR ⟨_,rfl,?_⟩;rw [←g];rfl
       ·rw [if_neg (by rw [hb];simp)] at g
        have hone:=hP m [44,125] rest (by omega) (by omega);have U:=dY m (.one [44,125]) rest (by omega) (by simp only [cu];omega) trivial;generalize bD m (.one [44,125]) rest=q at*;obtain ⟨v,more,e⟩:=q;dsimp only at g;refine kW ?_;refine kQ [.v (fA (v,more,e))] ?_;refine kW ?_;refine kC (fun hb=> ?_) fun hb=> ?_
        ·have he:e≠0:=by simpa using hb
         rw [if_pos he] at g;refine kW ?_;refine aR ⟨_,rfl,?_⟩;rw [←g];rfl
        ·have he:e=0:=by simpa using hb
         subst he;rw [if_neg (by simp)] at g;have hf:=U.fit rfl;simp only [cu] at hf;have hv1:=v.size_pos;have hp1:=fg more 125;have hp2:=fg more 44;have hpt:=mI (bP out) (toB key) v (fD J.1 fun p hp=>(J.2 p hp).2.1) (by rw [bX];omega);have hms:=fe (toB key) v out;have hrd2:=J.put (k:=toB key) (x:=v) (by rw [ae];omega) U.ord U.sb;refine kW ?_;refine kQ [.v ((vA ((bP (ap (toB key) v out)))))] ?_;refine kW ?_;refine kQ [.v (.bool (bE 125 more))] ?_;cases more with
         |nil=>
          refine kC (fun hb=> ?_) fun hb=> ?_
          ·cases hb
          ·refine kW ?_
           refine kQ [.v (.bool false)] ?_;refine kW ?_;refine kC (fun hb=> ?_) fun hb=> ?_
           ·refine kW ?_
            refine aR ⟨_,rfl,?_⟩;rw [←g];rfl
           ·simp at hb
         |cons c u=>
          have hsz:(toB (c::u)).size=u.length+1:=rfl;have h2:=m7 u;simp only [gA3] at hf;dsimp only at g;refine kC (fun hb=> ?_) fun hb=> ?_
          ·have hc:c=125:=by simpa [bE] using hb
           rw [if_pos hc] at g;refine kW ?_;refine kP [.v (.str (toB (tl u)))] ?_ ?_
           ·((repeat' apply aI)<;>first|exact kD|(intro hgd;refine ⟨?_,kG⟩;(repeat' apply aI)<;>first|exact kD|skip)|skip)
            all_goals first|(rw [hsz];omega)|(rw [xX];exact h2)|skip
           refine kW ?_;refine aR ⟨_,rfl,?_⟩;rw [←g];rfl
          ·have hc:c≠125:=by simpa [bE] using hb
           rw [if_neg hc] at g;refine kW ?_;refine kQ [.v (.bool (c==44))] ?_;by_cases T:c=44
           ·rw [if_pos T] at g
            refine kW ?_;refine kC (fun hb=> ?_) fun hb=> ?_
            ·simp [T] at hb
            ·refine kW ?_
             refine kP [] ?_ ?_
             ·((repeat' apply aI)<;>first|exact kD|(intro hgd;refine ⟨?_,kG⟩;(repeat' apply aI)<;>first|exact kD|skip)|skip)
              all_goals (rw [hsz];omega)
             refine kW ?_;rw [xX];exact AK.lp ⟨(ap (toB key) v out,u,m),⟨g,by dsimp only;omega,by dsimp only;omega,by dsimp only;omega,hrd2⟩,(wO ⟨kI,kI,kI,kI,kI,trivial⟩ ⟨kJ,kJ,trivial⟩ rfl rfl),by dsimp only;omega⟩
           ·rw [if_neg T] at g
            refine kW ?_;refine kC (fun hb=> ?_) fun hb=> ?_
            ·refine kW ?_
             refine aR ⟨_,rfl,?_⟩;rw [←g];rfl
            ·simp [T] at hb
  ·rw [hq] at hb
   have hnq: ¬Ap C=true:=by rw [hb];simp
   have I:ra C=if Lib.indexByte C 58= -1 then ([],[],10) else if ((tr (C.take (Lib.indexByte C 58).toNat)).isEmpty||tG (tr (C.take (Lib.indexByte C 58).toNat))||(tr (C.take (Lib.indexByte C 58).toNat)).contains 44||(tr (C.take (Lib.indexByte C 58).toNat)).contains 93||(tr (C.take (Lib.indexByte C 58).toNat)).contains 125)=true then ([],[],10) else (tr (C.take (Lib.indexByte C 58).toNat),C.drop ((Lib.indexByte C 58).toNat+1),0):=by rw [ra,if_neg hnq]
   have hkr:=Cg (s:=C) (key:=tr a) (rest:=b);refine kW ?_;refine kQ [.v (.bool (tG (tr a))),.v (.bool ((tr a).contains 44)),.v (.bool ((tr a).contains 93)),.v (.bool ((tr a).contains 125))] ?_;refine kC (fun hb=> ?_) fun hb=> ?_
   ·rw [bH] at hb
    have hkf2:ra C=([],[],10):=by
     rw [I];split at j
     ·rename_i hi;rw [if_pos hi]
     ·rename_i hi
      rw [if_neg hi];injection j with j
      injection j with h1 j
      injection h1 with h1
      have h1:=cK.1 h1;rw [h1,if_pos hb]
    rw [hkf2,wq,if_pos (by decide)] at g;refine kW ?_;refine kC (fun hb=> ?_) fun hb=> ?_
    ·refine kW ?_
     refine aR ⟨_,rfl,?_⟩;rw [←g];rfl
    ·simp at hb
   ·rw [bH] at hb
    split at j
    ·rename_i hi
     rw [if_pos hi] at I;rw [I,wq,if_pos (by decide)] at g;injection j with j
     injection j with h1 j
     injection j with h2 j
     injection j with h3 j
     injection h3 with h3
     subst h3;refine kW ?_;refine kC (fun hb=> ?_) fun hb=> ?_
     ·refine kW ?_
      refine aR ⟨_,rfl,?_⟩;rw [←g];rfl
     ·simp at hb
    ·rename_i hi
     rw [if_neg hi] at I;injection j with j
     injection j with h1 j
     injection j with h2 j
     injection j with h3 j
     injection h1 with h1
     injection h2 with h2
     injection h3 with h3
     have h1:=cK.1 h1;have h2:=cK.1 h2;subst h3;rw [h1,h2,if_neg (by rw [hb];simp)] at I;have hkl:=hkr I;rw [I,wq,if_neg (by simp)] at g;clear hu P htr hod hc1 hc2 hc3 hq I hkr hb h1 h2 hi;generalize tr a=key at*;generalize hrest:b=rest at*;have hgt:=eu (bP out) (toB key) (fD J.1 fun p hp=>(J.2 p hp).2.1) (by rw [bX];omega);refine kW ?_;refine kC (fun hb=> ?_) fun hb=> ?_
     ·simp at hb
     ·refine kW ?_
      refine kQ [.v (.tup [(vA (((aU (toB key) out).getD V.null))),.bool (aU (toB key) out).isSome])] ?_;refine kW ?_;refine kC (fun hb=> ?_) fun hb=> ?_
      ·rw [if_pos hb] at g
       refine kW ?_;refine aR ⟨_,rfl,?_⟩;rw [←g];rfl
      ·rw [if_neg (by rw [hb];simp)] at g
       have hone:=hP m [44,125] rest (by omega) (by omega);have U:=dY m (.one [44,125]) rest (by omega) (by simp only [cu];omega) trivial;generalize bD m (.one [44,125]) rest=q at*;obtain ⟨v,more,e⟩:=q;dsimp only at g;refine kW ?_;refine kQ [.v (fA (v,more,e))] ?_;refine kW ?_;refine kC (fun hb=> ?_) fun hb=> ?_
       ·have he:e≠0:=by simpa using hb
        rw [if_pos he] at g;refine kW ?_;refine aR ⟨_,rfl,?_⟩;rw [←g];rfl
       ·have he:e=0:=by simpa using hb
        subst he;rw [if_neg (by simp)] at g;have hf:=U.fit rfl;simp only [cu] at hf;have hv1:=v.size_pos;have hp1:=fg more 125;have hp2:=fg more 44;have hpt:=mI (bP out) (toB key) v (fD J.1 fun p hp=>(J.2 p hp).2.1) (by rw [bX];omega);have hms:=fe (toB key) v out;have hrd2:=J.put (k:=toB key) (x:=v) (by rw [ae];omega) U.ord U.sb;refine kW ?_;refine kQ [.v ((vA ((bP (ap (toB key) v out)))))] ?_;refine kW ?_;refine kQ [.v (.bool (bE 125 more))] ?_;cases more with
        |nil=>
         refine kC (fun hb=> ?_) fun hb=> ?_
         ·cases hb
         ·refine kW ?_
          refine kQ [.v (.bool false)] ?_;refine kW ?_;refine kC (fun hb=> ?_) fun hb=> ?_
          ·refine kW ?_
           refine aR ⟨_,rfl,?_⟩;rw [←g];rfl
          ·simp at hb
        |cons c u=>
         have hsz:(toB (c::u)).size=u.length+1:=rfl;have h2:=m7 u;simp only [gA3] at hf;dsimp only at g;refine kC (fun hb=> ?_) fun hb=> ?_
         ·have hc:c=125:=by simpa [bE] using hb
          rw [if_pos hc] at g;refine kW ?_;refine kP [.v (.str (toB (tl u)))] ?_ ?_
          ·((repeat' apply aI)<;>first|exact kD|(intro hgd;refine ⟨?_,kG⟩;(repeat' apply aI)<;>first|exact kD|skip)|skip)
           all_goals first|(rw [hsz];omega)|(rw [xX];exact h2)|skip
          refine kW ?_;refine aR ⟨_,rfl,?_⟩;rw [←g];rfl
         ·have hc:c≠125:=by simpa [bE] using hb
          rw [if_neg hc] at g;refine kW ?_;refine kQ [.v (.bool (c==44))] ?_;by_cases T:c=44
          ·rw [if_pos T] at g
           refine kW ?_;refine kC (fun hb=> ?_) fun hb=> ?_
           ·simp [T] at hb
           ·refine kW ?_
            refine kP [] ?_ ?_
            ·((repeat' apply aI)<;>first|exact kD|(intro hgd;refine ⟨?_,kG⟩;(repeat' apply aI)<;>first|exact kD|skip)|skip)
             all_goals (rw [hsz];omega)
            refine kW ?_;rw [xX];exact AK.lp ⟨(ap (toB key) v out,u,m),⟨g,by dsimp only;omega,by dsimp only;omega,by dsimp only;omega,hrd2⟩,(wO ⟨kI,kI,kI,kI,kI,trivial⟩ ⟨kJ,kJ,trivial⟩ rfl rfl),by dsimp only;omega⟩
          ·rw [if_neg T] at g
           refine kW ?_;refine kC (fun hb=> ?_) fun hb=> ?_
           ·refine kW ?_
            refine aR ⟨_,rfl,?_⟩;rw [←g];rfl
           ·simp [T] at hb
def EE (m:Nat) (ends:Bs):Bs→V×Bs×Int
 | []=>(V.null,[],10)
 |c::t=>if c=91 then yT m t else if c=123 then yU m t else if isQ c=true then (match lU (c::t) with
  |none=>(V.str ⟨#[]⟩,[],11)
  |some (x,rest)=>(V.str (toB x),tl rest,0))
  else if dB (tr ((c::t).take (cQ ends (c::t))))=true then (V.null,[],10)
  else ((bw (toB (tr ((c::t).take (cQ ends (c::t)))))).1,(c::t).drop (cQ ends (c::t)),(bw (toB (tr ((c::t).take (cQ ends (c::t)))))).2)
theorem Lj (m:Nat) (ends s:Bs):bD (m+1) (.one ends) s=EE m ends (tl s):=by
 rw [bD];generalize tl s=g;cases g with
 |nil=>rfl
 |cons c t=>
  simp only [EE,yT,yU];split
  ·generalize tl t=u
   cases u<;>rfl
  ·split
   ·generalize tl t=u
    cases u<;>rfl
   ·rfl
theorem EF (p:UInt8→Bool): ∀(l:Bs) (i:Nat),i≤l.length→(∀j c,j<i→l[j]? =some c→p c=true)→(∀c,l[i]? =some c→p c=false)→(l.takeWhile p).length=i
 | [],i,h,_,_=>by simp at h;subst h;rfl
 |d::l,0,_,_,g=>by rw [List.takeWhile_cons,if_neg (by rw [g d rfl];simp)];rfl
 |d::l,i+1,h,C,g=>by
  rw [List.takeWhile_cons,if_pos (C 0 d (by omega) rfl),gA3,EF p l i (by simpa using h) (fun j c I r=>C (j+1) c (by omega) (by simpa using r)) (fun c r=>g c (by simpa using r))]
theorem Ct (s ends:Bs) (n:Nat) (hs:s.length≤1000000) (hn:2*s.length+1≤n) (hF: ∀n t,t.length<s.length→2*t.length+2≤n→AC Tryz.prog 201 [.str (toB t)] (fA (yT n t)))
  (hB: ∀n t,t.length<s.length→2*t.length+2≤n→AC Tryz.prog 202 [.str (toB t)] (fA (yU n t))):AC Tryz.prog 149 [.str (toB s),.str (toB ends)] (fA (bD n (.one ends) s)):=by
 obtain ⟨m,rfl⟩: ∃k,n=k+1:=⟨n-1,by omega⟩
 rw [Lj];have htl:=m7 s;have htz:=dl s;refine kE Tryz.func149 xT xU fun E hE=> ?_
 refine kW ?_;refine kQ [.v (.str (toB (tl s)))] ?_;refine kW ?_;generalize tl s=g at*;have hs1:g.length≤1000000:=by omega
 generalize r:EE m ends g=R;have hp1:=fg g 91;have hp2:=fg g 123;refine kQ [.v (.bool (bE 91 g))] ?_;refine kW ?_;refine kC (fun hb=> ?_) fun hb=> ?_
 ·cases g with
  |nil=>cases hb
  |cons c t=>
   have hc:c=91:=by simpa [bE] using hb
   simp only [gA3] at htz;rw [EE,if_pos hc] at r;have hf:=hF m t (by omega) (by omega);have hsz:(toB (c::t)).size=t.length+1:=rfl;refine kW ?_;refine kP [.v (fA (yT m t))] ?_ ?_
   ·((repeat' apply aI)<;>first|exact kD|(intro C;refine ⟨?_,kG⟩;(repeat' apply aI)<;>first|exact kD|skip)|skip)
    all_goals first|(rw [hsz];omega)|(rw [xX];exact hf)|skip
   refine kW ?_;refine aR ⟨_,rfl,?_⟩;rw [←r];rfl
 ·have hb1:=hb
  refine kW ?_;refine kQ [.v (.bool (bE 123 g))] ?_;refine kW ?_;refine kC (fun hb=> ?_) fun hb=> ?_
  ·cases g with
   |nil=>cases hb
   |cons c t=>
    have hc:c=123:=by simpa [bE] using hb
    have U: ¬c=91:=by simpa [bE] using hb1
    simp only [gA3] at htz;rw [EE,if_neg U,if_pos hc] at r;have hf:=hB m t (by omega) (by omega);have hsz:(toB (c::t)).size=t.length+1:=rfl;refine kW ?_;refine kP [.v (fA (yU m t))] ?_ ?_
    ·((repeat' apply aI)<;>first|exact kD|(intro C;refine ⟨?_,kG⟩;(repeat' apply aI)<;>first|exact kD|skip)|skip)
     all_goals first|(rw [hsz];omega)|(rw [xX];exact hf)|skip
    refine kW ?_;refine aR ⟨_,rfl,?_⟩;rw [←r];rfl
  ·have hb2:=hb
   have hq:=wn g;have hu:=jf (toB g) (by rw [ae];omega);rw [Ao,jj] at hu;refine kW ?_;refine kP [] ?_ ?_
   ·((repeat' apply aI)<;>first|exact kD|(intro C;refine ⟨?_,kG⟩;(repeat' apply aI)<;>first|exact kD|skip)|skip)
    all_goals
     cases g with
     |nil=>simp [gd,bH] at C
     |cons c l=>rw [ae,gA3];omega
   refine kC (fun hb=> ?_) fun hb=> ?_
   ·rw [hq] at hb
    cases g with
    |nil=>cases hb
    |cons c t=>
     have U: ¬c=91:=by simpa [bE] using hb1
     have hc2: ¬c=123:=by simpa [bE] using hb2
     have hqc:isQ c=true:=hb;rw [EE,if_neg U,if_neg hc2,if_pos hqc] at r;refine kW ?_;cases hx:lU (c::t) with
     |none=>
      rw [hx] at hu r;simp only [qA] at hu;dsimp only at r;have h1:=ep ⟨#[]⟩;have h2:=m7 [];refine kQ [.v (.tup [.str ⟨#[]⟩,.str ⟨#[]⟩,.int .i64 11])] ?_;refine kW ?_;refine kQ [.v ((vA ((V.str ⟨#[]⟩)))),.v (.str (toB (tl [])))] ?_;refine kW ?_;refine aR ⟨_,rfl,?_⟩;rw [←r];rfl
     |some p=>
      obtain ⟨x,rest⟩:=p;rw [hx] at hu r;simp only [qA] at hu;dsimp only at r;have h1:=ep (toB x);have h2:=m7 rest;refine kQ [.v (.tup [.str ⟨x.toArray⟩,.str ⟨rest.toArray⟩,.int .i64 0])] ?_;refine kW ?_;refine kQ [.v ((vA ((V.str (toB x))))),.v (.str (toB (tl rest)))] ?_;refine kW ?_;refine aR ⟨_,rfl,?_⟩;rw [←r];rfl
   ·rw [hq] at hb
    have hR2:(if dB (tr (g.take (cQ ends g)))=true then (V.null,[],(10:Int)) else ((bw (toB (tr (g.take (cQ ends g))))).1,g.drop (cQ ends g),(bw (toB (tr (g.take (cQ ends g))))).2))=R:=by
     rw [←r];cases g with
     |nil=>
      have h0:cQ ends []=0:=by unfold cQ;split<;>rfl
      rw [h0,if_pos (by rfl)];rfl
     |cons c t=>
      have U: ¬c=91:=by simpa [bE] using hb1
      have hc2: ¬c=123:=by simpa [bE] using hb2
      have hqc: ¬isQ c=true:=by rw [show isQ c=false from hb];simp
      rw [EE,if_neg U,if_neg hc2,if_neg hqc]
    clear r hb hq hu hb1 hb2 hp1 hp2 htl hF hB;have r:=hR2;clear hR2;have hne:=bH ends;refine kW ?_;refine kC (fun hb=> ?_) fun hb=> ?_
    ·rw [hne] at hb
     have P:ends≠ []:=by intro h;subst h;simp at hb
     have hE:cQ ends g=(g.takeWhile fun c=> !ends.contains c).length:=by rw [cQ,if_neg P]
     rw [hE] at r;refine kW ?_;refine aJ (fun i:Nat=>(ar [(0,.str (toB g)),(1,.str (toB ends)),(4,.ptr 4 0),(5,.str ⟨#[]⟩),(6,.int .i64 0),(10,.int .i64 i)],⟨ag [(4,[.int .i64 0,.bool false,.int .i64 0,.str ⟨#[]⟩,.lst .nil 6 [],.lst .nil 7 []],false)],fun _=>0⟩)) (fun i=>i≤g.length∧ ∀j c,j<i→g[j]? =some c→(!ends.contains c)=true) (fun i=>g.length-i) 0 ⟨by omega,fun j c hj=>by omega⟩ (wO ⟨kI,kI,kI,kI,kI,kI,trivial⟩ ⟨kJ,trivial⟩ rfl rfl) fun i ⟨hi,hall⟩=> ?_
     refine kW ?_;by_cases hlt:i<g.length
     ·obtain ⟨c,hc⟩: ∃c,g[i]? =some c:=⟨_,gA1 hlt⟩
      have hat:(toB g).data.getD (i:Int).toNat 0=c:=eG (by simpa using hc);have hix:=Cs ends c;have him:=Az ends c;refine kP [.v (.int .i64 (Lib.indexByte ends c))] ?_ ?_
      ·((repeat' apply aI)<;>first|exact kD|(intro C;refine ⟨?_,kG⟩;(repeat' apply aI)<;>first|exact kD|skip)|skip)
       all_goals first|(rw [ae];omega)|(rw [hat];exact hix)|skip
      have hz:decide ((i:Int)<(toB g).size)=true:=by rw [ae];simpa using hlt
      rw [hz];cases T:ends.contains c with
      |true=>
       rw [T] at him;have h0:0≤Lib.indexByte ends c:=by simpa using him
       refine kC (fun hb=> ?_) fun hb=> ?_
       ·exfalso
        have:Lib.indexByte ends c<0:=by simpa using hb
        omega
       ·have he:=EF (fun c=> !ends.contains c) g i hi hall (fun d hd=>by rw [hc] at hd;cases hd;rw [T];rfl)
        rw [he] at r;refine AK.exit rfl ?_;have hwl:=iI (g.take i);have J:(tr (g.take i)).length≤1000000:=by rw [gA7] at hwl;omega
        have htr:=Cr (g.take i) (by rw [gA7];omega);have hod:=yR (tr (g.take i));have hco:=oF (tr (g.take i)) [58,32] J;have hsu:=rd (tr (g.take i)) [58] J;have hsc:=Al (toB (tr (g.take i))) (by rw [ae];omega);have I:=bH (tr (g.take i));refine kW ?_;refine kP [.v (.str (toB (tr (g.take i))))] ?_ ?_
        ·((repeat' apply aI)<;>first|exact kD|(intro C;refine ⟨?_,kG⟩;(repeat' apply aI)<;>first|exact kD|skip)|skip)
         all_goals first|(rw [ae];omega)|(rw [gh _ _ (by omega)];exact htr)|skip
        refine kW ?_;generalize hw:tr (g.take i)=w at*;refine kQ [.v (.bool (tG w)),.v (.bool (Lib.contains w [58,32])),.v (.bool (Lib.hasSuffix w [58]))] ?_;refine kC (fun hb=> ?_) fun hb=> ?_
        ·rw [I] at hb
         rw [if_pos (show dB w=true from hb)] at r;refine kW ?_;refine aR ⟨_,rfl,?_⟩;rw [←r];rfl
        ·rw [I] at hb
         rw [if_neg (show¬dB w=true by rw [show dB w=false from hb];simp)] at r;refine kW ?_;refine kQ [.v (.tup [(vA ((bw (toB w)).1)),.int .i64 (bw (toB w)).2])] ?_;refine kW ?_;refine kP [] ?_ ?_
         ·((repeat' apply aI)<;>first|exact kD|(intro C;refine ⟨?_,kG⟩;(repeat' apply aI)<;>first|exact kD|skip)|skip)
          all_goals (rw [ae];omega)
         refine kW ?_;refine aR ⟨_,rfl,?_⟩;rw [bg,←r];rfl
      |false=>
       rw [T] at him;have h0:Lib.indexByte ends c<0:=by simpa using him
       refine kC (fun hb=> ?_) fun hb=> ?_
       ·refine kW ?_
        exact AK.lp ⟨i+1,⟨by omega,fun j d hj hd=>by
         by_cases e:j=i
         ·subst e;rw [hc] at hd;cases hd;rw [T];rfl
         ·exact hall j d (by omega) hd⟩,(wO ⟨kI,kI,kI,kI,kI,kU,trivial⟩ ⟨kJ,trivial⟩ rfl rfl),by omega⟩
       ·exfalso
        have: ¬Lib.indexByte ends c<0:=by simpa using hb
        omega
     ·have hz:decide ((i:Int)<(toB g).size)=false:=by rw [ae];simpa using hlt
      refine kP [.v (.int .i64 0)] ?_ ?_
      ·((repeat' apply aI)<;>first|exact kD|(intro C;refine ⟨?_,kG⟩;(repeat' apply aI)<;>first|exact kD|skip)|skip)
       all_goals (exfalso;rw [hz] at C;simp [gd] at C)
      rw [hz];refine kC (fun hb=> ?_) fun hb=> ?_
      ·cases hb
      ·have he:=EF (fun c=> !ends.contains c) g i hi hall (fun d hd=>by have:=(gA0 hd).1;omega)
       rw [he] at r;refine AK.exit rfl ?_;have hwl:=iI (g.take i);have J:(tr (g.take i)).length≤1000000:=by rw [gA7] at hwl;omega
       have htr:=Cr (g.take i) (by rw [gA7];omega);have hod:=yR (tr (g.take i));have hco:=oF (tr (g.take i)) [58,32] J;have hsu:=rd (tr (g.take i)) [58] J;have hsc:=Al (toB (tr (g.take i))) (by rw [ae];omega);have I:=bH (tr (g.take i));refine kW ?_;refine kP [.v (.str (toB (tr (g.take i))))] ?_ ?_
       ·((repeat' apply aI)<;>first|exact kD|(intro C;refine ⟨?_,kG⟩;(repeat' apply aI)<;>first|exact kD|skip)|skip)
        all_goals first|(rw [ae];omega)|(rw [gh _ _ (by omega)];exact htr)|skip
       refine kW ?_;generalize hw:tr (g.take i)=w at*;refine kQ [.v (.bool (tG w)),.v (.bool (Lib.contains w [58,32])),.v (.bool (Lib.hasSuffix w [58]))] ?_;refine kC (fun hb=> ?_) fun hb=> ?_
       ·rw [I] at hb
        rw [if_pos (show dB w=true from hb)] at r;refine kW ?_;refine aR ⟨_,rfl,?_⟩;rw [←r];rfl
       ·rw [I] at hb
        rw [if_neg (show¬dB w=true by rw [show dB w=false from hb];simp)] at r;refine kW ?_;refine kQ [.v (.tup [(vA ((bw (toB w)).1)),.int .i64 (bw (toB w)).2])] ?_;refine kW ?_;refine kP [] ?_ ?_
        ·((repeat' apply aI)<;>first|exact kD|(intro C;refine ⟨?_,kG⟩;(repeat' apply aI)<;>first|exact kD|skip)|skip)
         all_goals (rw [ae];omega)
        refine kW ?_;refine aR ⟨_,rfl,?_⟩;rw [bg,←r];rfl
    ·rw [hne] at hb
     have P:ends= []:=by simpa [List.isEmpty_iff] using hb
     have hE:cQ ends g=g.length:=by rw [cQ,if_pos P]
     rw [hE] at r;have hszz:((toB g).size:Int)=(g.length:Int):=rfl;rw [hszz];have hwl:=iI (g.take (g.length));have J:(tr (g.take (g.length))).length≤1000000:=by rw [gA7] at hwl;omega
     have htr:=Cr (g.take (g.length)) (by rw [gA7];omega);have hod:=yR (tr (g.take (g.length)));have hco:=oF (tr (g.take (g.length))) [58,32] J;have hsu:=rd (tr (g.take (g.length))) [58] J;have hsc:=Al (toB (tr (g.take (g.length)))) (by rw [ae];omega);have I:=bH (tr (g.take (g.length)));refine kW ?_;refine kP [.v (.str (toB (tr (g.take (g.length)))))] ?_ ?_
     ·((repeat' apply aI)<;>first|exact kD|(intro C;refine ⟨?_,kG⟩;(repeat' apply aI)<;>first|exact kD|skip)|skip)
      all_goals first|(rw [ae];omega)|(rw [gh _ _ (by omega)];exact htr)|skip
     refine kW ?_;generalize hw:tr (g.take (g.length))=w at*;refine kQ [.v (.bool (tG w)),.v (.bool (Lib.contains w [58,32])),.v (.bool (Lib.hasSuffix w [58]))] ?_;refine kC (fun hb=> ?_) fun hb=> ?_
     ·rw [I] at hb
      rw [if_pos (show dB w=true from hb)] at r;refine kW ?_;refine aR ⟨_,rfl,?_⟩;rw [←r];rfl
     ·rw [I] at hb
      rw [if_neg (show¬dB w=true by rw [show dB w=false from hb];simp)] at r;refine kW ?_;refine kQ [.v (.tup [(vA ((bw (toB w)).1)),.int .i64 (bw (toB w)).2])] ?_;refine kW ?_;refine kP [] ?_ ?_
      ·((repeat' apply aI)<;>first|exact kD|(intro C;refine ⟨?_,kG⟩;(repeat' apply aI)<;>first|exact kD|skip)|skip)
       all_goals (rw [ae];omega)
      refine kW ?_;refine aR ⟨_,rfl,?_⟩;rw [bg,←r];rfl
theorem EG: ∀N,N≤1000000→JC N
 |0,_=>fun n ends s g hn=>Ct s ends n (by omega) hn (fun n t ht=>by omega) (fun n t ht=>by omega)
 |N+1,i=>fun n ends s g hn=>Ct s ends n (by omega) hn (fun n t ht hn=>M1 (EG N (by omega)) (by omega) n t (by omega) hn) (fun n t ht hn=>JD (EG N (by omega)) (by omega) n t (by omega) hn)
end Go.Proofs.YtbgflifmanjpjaaGreatDoor
