/- Part 22. -/
import Derived.Test.YtbgflifmanjpjaaGreatDoorS21
set_option linter.unusedSimpArgs false
set_option linter.unusedVariables false
namespace Go.Proofs.YtbgflifmanjpjaaGreatDoor
open Go.RowKit
theorem u6:AC Tryz.prog 147 [.lst .any 6 []] (.agg [.int .i64 4,.bool false,.int .i64 0,.str ⟨#[]⟩,.lst .nil 6 [],.lst .nil 7 []]):=by
 refine AC.enterR Tryz.func147 uG uH (by rfl) fun E g=> ?_
 show AK _ _ _ [.c lc] _ _;rw [lc];refine kW ?_;refine aJ (fun i:Nat=>(ax [(2,.ptr 2 0),(3,.ptr 3 0),(7,.lst .any 6 []),(8,.int .i64 0),(9,.int .i64 i)],⟨ah [(2,[.int .i64 0,.bool false,.int .i64 0,.str ⟨#[]⟩,.lst .nil 6 [],.lst .nil 7 []],false),(3,[.int .i64 4,.bool false,.int .i64 0,.str ⟨#[]⟩,.lst .nil 6 [],.lst .nil 7 []],false)],fun _=>0⟩)) (fun i=>i≤0) (fun i=>0-i) 0 (by omega) (wO ⟨kI,kI,kI,kI,kI,trivial⟩ ⟨kJ,kJ,trivial⟩ rfl rfl) fun i hi=> ?_
 refine kW ?_;refine kC (fun hb=> ?_) fun hb=> ?_
 ·exfalso
  have:(i:Int)<0:=by simpa using hb
  omega
 ·refine AK.exit rfl ?_
  refine kW ?_;refine aR ⟨_,rfl,?_⟩;rfl
def fA (r:V×Bs×Int):AV:= .tup [(vA (r.1)),.str (toB r.2.1),.int .i64 r.2.2]
def HA (n:Nat):Bs→V×Bs×Int
 | []=>br n (.flow []) []
 |d::u=>if d=93 then (iI [],tl u,0) else br n (.flow []) (d::u)
def HD (n:Nat):Bs→V×Bs×Int
 | []=>br n (.braces []) []
 |d::u=>if d=125 then (b8 [],tl u,0) else br n (.braces []) (d::u)
def xE (n:Nat) (t:Bs):V×Bs×Int:=HA n (tl t)
def xF (n:Nat) (t:Bs):V×Bs×Int:=HD n (tl t)
def bu (c:UInt8):Bs→Bool
 | []=>false
 |d::_=>d==c
theorem eO (l:Bs) (c:UInt8):AC Tryz.prog 42 [.str (toB l),.str ⟨#[c]⟩] (.bool (bu c l)):=by
 have h:=rE (toB l) ⟨#[c]⟩;rw [iL] at h;exact h
def HE (N:Nat):Prop:= ∀(n:Nat) (ends s:Bs),s.length≤N→2*s.length+1≤n→AC Tryz.prog 149 [.str (toB s),.str (toB ends)] (fA (br n (.one ends) s))
theorem jN (l:List V) (x:V):aM (l++ [x])=aM l++ [nQ x]:=by
 induction l with
 |nil=>simp [aM]
 |cons y l ih=>simp [aM,ih]
theorem wt (c:UInt8) (u:Bs):(toB (c::u)).extract (1:Int).toNat ((toB (c::u)).size:Int).toNat=toB u:=fe (c::u) 1
theorem KT {N:Nat} (hP:HE N) (hN:N≤1000000) (n:Nat) (t:Bs) (ht:t.length≤N) (hn:2*t.length+2≤n):AC Tryz.prog 201 [.str (toB t)] (fA (xE n t)):=by
 have hl:=u6;have P:=mE t;have htz:=cQ t;have hp:=eO (tl t) 93;unfold xE;refine kE Tryz.func201 uW uX fun E hE=> ?_
 refine kW ?_;refine kQ [.v (.agg [.int .i64 4,.bool false,.int .i64 0,.str ⟨#[]⟩,.lst .nil 6 [],.lst .nil 7 []])] ?_;refine kW ?_;refine kQ [.v (.str (toB (tl t)))] ?_;refine kW ?_;generalize tl t=s0 at*;refine kQ [.v (.bool (bu 93 s0))] ?_;refine kC (fun hb=> ?_) fun hb=> ?_
 ·cases s0 with
  |nil=>cases hb
  |cons d u=>
   have hd:d=93:=by simpa [bu] using hb
   subst hd;rw [HA,if_pos rfl];have T:=mE u;have hsz:(toB ((93:UInt8)::u)).size=u.length+1:=rfl;refine kW ?_;refine kP [.v (.str (toB (tl u)))] ?_ ?_
   ·((repeat' apply aI)<;>first|exact kD|(intro p;refine ⟨?_,kG⟩;(repeat' apply aI)<;>first|exact kD|skip)|skip)
    all_goals first|(rw [hsz];omega)|(rw [wt];exact T)|skip
   refine kW ?_;refine aR ⟨_,rfl,?_⟩;rfl
 ·have g:HA n s0=br n (.flow []) s0:=by
   cases s0 with
   |nil=>rfl
   |cons d u=>exact if_neg (by simpa [bu] using hb)
  rw [g];clear g hb hp P;generalize U:br n (.flow []) s0=R;refine kW ?_
  refine aJ (fun i:(Nat→Nat)×List V×Bs×Nat=>(ax [(0,.str (toB i.2.2.1)),(2,.ptr 2 0),(3,.str ⟨#[]⟩),(4,.int .i64 0),(5,.ptr 5 0)],⟨ah [(2,[.int .i64 0,.bool false,.int .i64 0,.str ⟨#[]⟩,.lst .nil 6 [],.lst .nil 7 []],false),(5,[.int .i64 4,.bool false,.int .i64 0,.str ⟨#[]⟩,.lst (.own 32 (i.1 32)) 6 (aM i.2.1),.lst .nil 7 []],false)],i.1⟩))
   (fun i=>br i.2.2.2 (.flow i.2.1) i.2.2.1=R∧i.2.2.1.length≤N∧2*i.2.2.1.length+2≤i.2.2.2∧aO i.2.1+i.2.2.1.length≤N∧RdL i.2.1) (fun i=>i.2.2.1.length) (fun _=>0,[],s0,n) ⟨U,by dsimp only;omega,by dsimp only;omega,by dsimp only [aO];omega,fun x hx=>by cases hx⟩
   (wO ⟨kI,kI,kI,kI,kI,trivial⟩ ⟨kJ,⟨_,rfl,.refl _,.refl _,.refl _,.refl _,.own _ _ _ _,.refl _,trivial⟩,trivial⟩ rfl rfl) fun ⟨r,out,s,m⟩ ⟨g,hs,hm,hz,I⟩=> ?_
  dsimp only at g hs hm hz I;obtain ⟨m,rfl⟩: ∃k,m=k+1:=⟨m-1,by omega⟩
  have hone:=hP m [44,93] s hs (by omega);have C:=dJ m (.one [44,93]) s (by omega) (by simp only [b9];omega) trivial
  have J:br (m+1) (.flow out) s=(match br m (.one [44,93]) s with
   |(v,rest,e)=>if e≠0 then (V.null,[],e) else match rest with
    | []=>(V.null,[],10)
    |c::u=>if c=93 then (iI (out++ [v]),tl u,0) else if c=44 then br m (.flow (out++ [v])) u else (V.null,[],10)):=rfl
  rw [J] at g;generalize br m (.one [44,93]) s=q at*;obtain ⟨v,rest,e⟩:=q;dsimp only at g;refine kW ?_;refine kQ [.v (fA (v,rest,e))] ?_;refine kW ?_;refine kC (fun hb=> ?_) fun hb=> ?_
  ·have he:e≠0:=by simpa using hb
   rw [if_pos he] at g;refine kW ?_;refine aR ⟨_,rfl,?_⟩;rw [←g];rfl
  ·have he:e=0:=by simpa using hb
   subst he;rw [if_neg (by simp)] at g;have hf:=C.fit rfl;simp only [b9] at hf;have hll:=bW out;have hv1:=v.size_pos;have hp1:=eO rest 93;have hp2:=eO rest 44;have hsz1:aO (out++ [v])=aO out+v.size:=by rw [cr];simp [aO]
   refine kW ?_;refine kP [] ?_ ?_
   ·((repeat' apply aI)<;>first|exact kD|(intro p;refine ⟨?_,kG⟩;(repeat' apply aI)<;>first|exact kD|skip)|skip)
    all_goals simp only [aQ,List.length_nil,gA3]
    all_goals omega
   refine kW ?_;refine kQ [.v (.bool (bu 93 rest))] ?_;cases rest with
   |nil=>
    refine kC (fun hb=> ?_) fun hb=> ?_
    ·cases hb
    ·refine kW ?_
     refine kQ [.v (.bool false)] ?_;refine kW ?_;refine kC (fun hb=> ?_) fun hb=> ?_
     ·refine kW ?_
      refine aR ⟨_,rfl,?_⟩;rw [←g];rfl
     ·simp at hb
   |cons c u=>
    have hsz:(toB (c::u)).size=u.length+1:=rfl;have T:=mE u;simp only [gA3] at hf;dsimp only at g;refine kC (fun hb=> ?_) fun hb=> ?_
    ·have hc:c=93:=by simpa [bu] using hb
     rw [if_pos hc] at g;refine kW ?_;refine kP [.v (.str (toB (tl u)))] ?_ ?_
     ·((repeat' apply aI)<;>first|exact kD|(intro p;refine ⟨?_,kG⟩;(repeat' apply aI)<;>first|exact kD|skip)|skip)
      all_goals first|(rw [hsz];omega)|(rw [wt];exact T)|skip
     refine kW ?_;refine aR ⟨_,rfl,?_⟩;rw [←g];have e1:=jN out v;rw [bR] at e1;show _=AV.tup [.agg [_,_,_,_,.lst .any 6 (aM (out++ [v])),_],_,_];rw [e1];rfl
    ·have hc:c≠93:=by simpa [bu] using hb
     rw [if_neg hc] at g;refine kW ?_;refine kQ [.v (.bool (c==44))] ?_;by_cases j:c=44
     ·rw [if_pos j] at g
      refine kW ?_;refine kC (fun hb=> ?_) fun hb=> ?_
      ·simp [j] at hb
      ·refine kW ?_
       refine kP [] ?_ ?_
       ·((repeat' apply aI)<;>first|exact kD|(intro p;refine ⟨?_,kG⟩;(repeat' apply aI)<;>first|exact kD|skip)|skip)
        all_goals (rw [hsz];omega)
       refine kW ?_;rw [wt];refine AK.lp ⟨(_,out++ [v],u,m),⟨g,by dsimp only;omega,by dsimp only;omega,by dsimp only;omega,I.snoc C.ord C.sb⟩,(wO ⟨kI,kI,kI,kI,kI,trivial⟩ ⟨kJ,⟨_,rfl,.refl _,.refl _,.refl _,.refl _,?_,.refl _,trivial⟩,trivial⟩ rfl rfl),by dsimp only;omega⟩;rw [jN,bR];exact .refl _
     ·rw [if_neg j] at g
      refine kW ?_;refine kC (fun hb=> ?_) fun hb=> ?_
      ·refine kW ?_
       refine aR ⟨_,rfl,?_⟩;rw [←g];rfl
      ·simp [j] at hb
theorem KU (s p:ByteArray):AC Tryz.prog 214 [.str s,.str p] (.tup [.str (eF s p),.bool (eE s p)]):=by
 have h:=yN s p;refine kE Tryz.func214 gi gj fun E j=> ?_
 refine kW ?_;refine kQ [.v (.bool (eE s p))] ?_;refine kW ?_;refine kC (fun hb=> ?_) fun hb=> ?_
 ·have g:eE s p=false:=by simpa using hb
  refine kW ?_;refine aR ⟨_,rfl,?_⟩;rw [eF,if_neg (by rw [g];simp),g];rfl
 ·have g:eE s p=true:=by simpa using hb
  have i:p.size≤s.size:=by
   rw [eE,gA9,gB0] at g;exact g.1
  refine kW ?_;refine kQ [] ?_;refine kW ?_;refine aR ⟨_,rfl,?_⟩;rw [eF,if_pos g,g];rfl
theorem Lv (s p:ByteArray):AC Tryz.prog 161 [.str s,.str p] (.tup [.str (eF s p),.bool (eE s p)]):=by
 have h:=KU s p;refine kE Tryz.func161 jx jy fun E g=> ?_
 refine kW ?_;refine kQ [.v (.tup [.str (eF s p),.bool (eE s p)])] ?_;refine kW ?_;refine aR ⟨_,rfl,?_⟩;rfl
theorem FE (c:UInt8) (l:Bs) (h:bu c l=true): ∃u,l=c::u∧eF (toB l) ⟨#[c]⟩=toB u:=by
 cases l with
 |nil=>cases h
 |cons d u=>
  have g:d=c:=by simpa [bu] using h
  subst g;refine ⟨u,rfl,?_⟩;rw [eF,if_pos (by rw [iL];simp)];exact fe (d::u) 1
theorem qw (l:Bs) (c:UInt8) (hl:l.length≤1000000):AC Tryz.prog 175 [.str (toB l),.str ⟨#[c]⟩] (.bool (l.contains c)):=by
 have h:AC Tryz.prog 175 [.str (toB l),.str ⟨#[c]⟩] (.bool (decide (0≤Lib.indexByte l c))):=AC.of2 (by kernel_rfl) (fun _=>Rel1.bool _) fun w _=>Tryz.strings_Contains_one (toB l) c w
 rw [y5] at h;exact h
theorem KV (l:Bs) (hl:l.length≤1000000):AC Tryz.prog 71 [.str (toB l),.str ⟨#[58]⟩] (if Lib.indexByte l 58= -1 then .tup [.str (toB l),.str (toB []),.bool false] else .tup [.str (toB (l.take (Lib.indexByte l 58).toNat)),.str (toB (l.drop ((Lib.indexByte l 58).toNat+1))),.bool true]):=by
 have h:=Lu (toB l) 58 (by rw [ae];omega);rw [ph,lv] at h;rcases ma l 58 with ⟨g,_⟩|⟨i,g,j,_⟩
 ·rw [g] at h⊢
  rw [if_pos rfl] at h⊢;exact h
 ·rw [g] at h⊢
  rw [if_neg (by omega)] at h⊢;simp only [Int.toNat_natCast] at h⊢;rw [uY l i (by omega),fe] at h;exact h
def u7 (m:Nat) (out:List (ByteArray×V)):Bs×Bs×Int→V×Bs×Int
 |(key,rest,k)=>if k≠0 then (V.null,[],k) else if (bh (toB key) out).isSome=true then (V.null,[],13) else match br m (.one [44,125]) rest with
  |(v,more,e)=>if e≠0 then (V.null,[],e) else match more with
   | []=>(V.null,[],10)
   |c::u=>if c=125 then (b8 (ap (toB key) v out),tl u,0) else if c=44 then br m (.braces (ap (toB key) v out)) u else (V.null,[],10)
theorem HF {N:Nat} (hP:HE N) (hN:N≤1000000) (n:Nat) (t:Bs) (ht:t.length≤N) (hn:2*t.length+2≤n):AC Tryz.prog 202 [.str (toB t)] (fA (xF n t)):=by
 have hmm:=l9 [] (by simp [aF]);have htl:=mE t;have htz:=cQ t;have hp:=eO (tl t) 125;unfold xF;refine kE Tryz.func202 qt qu fun E hE=> ?_
 refine kW ?_;refine kQ [.v ((vA ((b8 []))))] ?_;refine kW ?_;refine kQ [.v (.str (toB (tl t)))] ?_;refine kW ?_;generalize tl t=s0 at*;refine kQ [.v (.bool (bu 125 s0))] ?_;refine kC (fun hb=> ?_) fun hb=> ?_
 ·cases s0 with
  |nil=>cases hb
  |cons d u=>
   have hd:d=125:=by simpa [bu] using hb
   subst hd;rw [HD,if_pos rfl];have h2:=mE u;have hsz:(toB ((125:UInt8)::u)).size=u.length+1:=rfl;refine kW ?_;refine kP [.v (.str (toB (tl u)))] ?_ ?_
   ·((repeat' apply aI)<;>first|exact kD|(intro hgd;refine ⟨?_,kG⟩;(repeat' apply aI)<;>first|exact kD|skip)|skip)
    all_goals first|(rw [hsz];omega)|(rw [wt];exact h2)|skip
   refine kW ?_;refine aR ⟨_,rfl,?_⟩;rfl
 ·have g:HD n s0=br n (.braces []) s0:=by
   cases s0 with
   |nil=>rfl
   |cons d u=>exact if_neg (by simpa [bu] using hb)
  rw [g];clear g hb hp htl;generalize hRR:br n (.braces []) s0=R;refine kW ?_
  refine aJ (fun i:List (ByteArray×V)×Bs×Nat=>(ax [(0,.str (toB i.2.1)),(2,.ptr 2 0),(3,.str ⟨#[]⟩),(4,.int .i64 0),(5,.ptr 5 0)],⟨ah [(2,[.int .i64 0,.bool false,.int .i64 0,.str ⟨#[]⟩,.lst .nil 6 [],.lst .nil 7 []],false),(5,(vC ((b8 i.1))),false)],fun _=>0⟩))
   (fun i=>br i.2.2 (.braces i.1) i.2.1=R∧i.2.1.length≤N∧2*i.2.1.length+2≤i.2.2∧aF i.1+i.2.1.length≤N∧RdM i.1) (fun i=>i.2.1.length) ([],s0,n) ⟨hRR,by dsimp only;omega,by dsimp only;omega,by dsimp only [aF];omega,List.Pairwise.nil,fun x hx=>by cases hx⟩
   (wO ⟨kI,kI,kI,kI,kI,trivial⟩ ⟨kJ,kJ,trivial⟩ rfl rfl) fun ⟨out,s,m⟩ ⟨g,hs,hm,hz,J⟩=> ?_
  dsimp only at g hs hm hz J;obtain ⟨m,rfl⟩: ∃k,m=k+1:=⟨m-1,by omega⟩
  have htl:=mE s;have htz2:=cQ s;have hunf:br (m+1) (.braces out) s=u7 m out (qs (tl s)):=rfl;rw [hunf] at g;clear hunf;refine kW ?_;refine kQ [.v (.str (toB (tl s)))] ?_;refine kW ?_;generalize tl s=C at*;have hs1:C.length≤1000000:=by omega
  have P:=KV C hs1;have hu:=iH (toB C) (by rw [ae];omega);rw [yU,lv] at hu;have hq:=uZ C
  obtain ⟨a,b,ok,j,P⟩: ∃a b ok,(if Lib.indexByte C 58= -1 then AV.tup [.str (toB C),.str (toB []),.bool false] else .tup [.str (toB (C.take (Lib.indexByte C 58).toNat)),.str (toB (C.drop ((Lib.indexByte C 58).toNat+1))),.bool true])= .tup [.str (toB a),.str (toB b),.bool ok]∧(a.length≤C.length∧AC Tryz.prog 71 [.str (toB C),.str ⟨#[58]⟩] (.tup [.str (toB a),.str (toB b),.bool ok])):=by
   split
   ·rename_i hi;rw [if_pos hi] at P;exact ⟨_,_,_,rfl,gA4 _,P⟩
   ·rename_i hi;rw [if_neg hi] at P;exact ⟨_,_,_,rfl,by rw [gA7];omega,P⟩
  obtain ⟨hal,P⟩:=P;have htr:=Dg a (by omega);have hod:=xC (tr a);have htrz:=ia a;have hc1:=qw (tr a) 44 (by omega);have hc2:=qw (tr a) 93 (by omega);have hc3:=qw (tr a) 125 (by omega);refine kQ [.v (.tup [.str (toB a),.str (toB b),.bool ok])] ?_;refine kW ?_;refine kQ [.v (.str (toB (tr a)))] ?_;refine kW ?_;refine kP [] ?_ ?_
  ·((repeat' apply aI)<;>first|exact kD|(intro hgd;refine ⟨?_,kG⟩;(repeat' apply aI)<;>first|exact kD|skip)|skip)
   all_goals
    cases C with
    |nil=>simp [gd,bw] at hgd
    |cons c l=>rw [ae,gA3];omega
  refine kC (fun hb=> ?_) fun hb=> ?_
  ·rw [hq] at hb
   have hqt:=hb;refine kW ?_;cases hx:lr C with
   |none=>
    have I:qs C=([],[],11):=by rw [qs,if_pos hqt,hx]
    rw [I,u7,if_pos (by decide)] at g;rw [hx] at hu;simp only [qA] at hu;refine kQ [.v (.tup [.str ⟨#[]⟩,.str ⟨#[]⟩,.int .i64 11])] ?_;refine kW ?_;refine kC (fun hb=> ?_) fun hb=> ?_
    ·refine kW ?_
     refine aR ⟨_,rfl,?_⟩;rw [←g];rfl
    ·simp at hb
   |some p=>
    obtain ⟨key,rest⟩:=p;rw [hx] at hu;simp only [qA] at hu;have hz2:=gT hx;have hcp:=Lv (toB rest) ⟨#[58]⟩;refine kQ [.v (.tup [.str ⟨key.toArray⟩,.str ⟨rest.toArray⟩,.int .i64 0])] ?_;refine kW ?_;refine kC (fun hb=> ?_) fun hb=> ?_
    ·simp at hb
    ·refine kW ?_
     cases hh:bu 58 rest with
     |false=>
      have hh2:eE (toB rest) ⟨#[58]⟩=false:=by rw [iL];exact hh
      rw [hh2] at hcp
      have I:qs C=([],[],10):=by
       rw [qs,if_pos hqt,hx];cases rest with
       |nil=>rfl
       |cons c r=>simp [show¬c=58 by simpa [bu] using hh]
      rw [I,u7,if_pos (by decide)] at g;refine kQ [.v (.tup [.str (eF (toB rest) ⟨#[58]⟩),.bool false])] ?_;refine kW ?_;refine kC (fun hb=> ?_) fun hb=> ?_
      ·refine kW ?_
       refine aR ⟨_,rfl,?_⟩;rw [←g];rfl
      ·simp at hb
     |true=>
      obtain ⟨u,rfl,hcu⟩:=FE 58 rest hh;have hh2:eE (toB (58::u)) ⟨#[58]⟩=true:=by rw [iL];simp
      rw [hh2,hcu] at hcp;simp only [gA3] at hz2;have I:qs C=(key,u,0):=by rw [qs,if_pos hqt,hx];simp
      rw [I,u7,if_neg (by simp)] at g;refine kQ [.v (.tup [.str (toB u),.bool true])] ?_;clear hcp hh hh2 hcu hu P htr hod hc1 hc2 hc3 hq I hx hb;generalize hrest:u=rest at*;have hgt:=fS (b8 out) (toB key) (eh J.1 fun p hp=>(J.2 p hp).2.1) (by rw [bS];omega);refine kW ?_;refine kC (fun hb=> ?_) fun hb=> ?_
      ·simp at hb
      ·refine kW ?_
       refine kQ [.v (.tup [(vA (((bh (toB key) out).getD V.null))),.bool (bh (toB key) out).isSome])] ?_;refine kW ?_;refine kC (fun hb=> ?_) fun hb=> ?_
       ·rw [if_pos hb] at g
        refine kW ?_;refine aR ⟨_,rfl,?_⟩;rw [←g];rfl
       ·rw [if_neg (by rw [hb];simp)] at g
        have hone:=hP m [44,125] rest (by omega) (by omega);have U:=dJ m (.one [44,125]) rest (by omega) (by simp only [b9];omega) trivial;generalize br m (.one [44,125]) rest=q at*;obtain ⟨v,more,e⟩:=q;dsimp only at g;refine kW ?_;refine kQ [.v (fA (v,more,e))] ?_;refine kW ?_;refine kC (fun hb=> ?_) fun hb=> ?_
        ·have he:e≠0:=by simpa using hb
         rw [if_pos he] at g;refine kW ?_;refine aR ⟨_,rfl,?_⟩;rw [←g];rfl
        ·have he:e=0:=by simpa using hb
         subst he;rw [if_neg (by simp)] at g;have hf:=U.fit rfl;simp only [b9] at hf;have hv1:=v.size_pos;have hp1:=eO more 125;have hp2:=eO more 44;have hpt:=mc (b8 out) (toB key) v (eh J.1 fun p hp=>(J.2 p hp).2.1) (by rw [bS];omega);have hms:=eN (toB key) v out;have hrd2:=J.put (k:=toB key) (x:=v) (by rw [ae];omega) U.ord U.sb;refine kW ?_;refine kQ [.v ((vA ((b8 (ap (toB key) v out)))))] ?_;refine kW ?_;refine kQ [.v (.bool (bu 125 more))] ?_;cases more with
         |nil=>
          refine kC (fun hb=> ?_) fun hb=> ?_
          ·cases hb
          ·refine kW ?_
           refine kQ [.v (.bool false)] ?_;refine kW ?_;refine kC (fun hb=> ?_) fun hb=> ?_
           ·refine kW ?_
            refine aR ⟨_,rfl,?_⟩;rw [←g];rfl
           ·simp at hb
         |cons c u=>
          have hsz:(toB (c::u)).size=u.length+1:=rfl;have h2:=mE u;simp only [gA3] at hf;dsimp only at g;refine kC (fun hb=> ?_) fun hb=> ?_
          ·have hc:c=125:=by simpa [bu] using hb
           rw [if_pos hc] at g;refine kW ?_;refine kP [.v (.str (toB (tl u)))] ?_ ?_
           ·((repeat' apply aI)<;>first|exact kD|(intro hgd;refine ⟨?_,kG⟩;(repeat' apply aI)<;>first|exact kD|skip)|skip)
            all_goals first|(rw [hsz];omega)|(rw [wt];exact h2)|skip
           refine kW ?_;refine aR ⟨_,rfl,?_⟩;rw [←g];rfl
          ·have hc:c≠125:=by simpa [bu] using hb
           rw [if_neg hc] at g;refine kW ?_;refine kQ [.v (.bool (c==44))] ?_;by_cases T:c=44
           ·rw [if_pos T] at g
            refine kW ?_;refine kC (fun hb=> ?_) fun hb=> ?_
            ·simp [T] at hb
            ·refine kW ?_
             refine kP [] ?_ ?_
             ·((repeat' apply aI)<;>first|exact kD|(intro hgd;refine ⟨?_,kG⟩;(repeat' apply aI)<;>first|exact kD|skip)|skip)
              all_goals (rw [hsz];omega)
             refine kW ?_;rw [wt];exact AK.lp ⟨(ap (toB key) v out,u,m),⟨g,by dsimp only;omega,by dsimp only;omega,by dsimp only;omega,hrd2⟩,(wO ⟨kI,kI,kI,kI,kI,trivial⟩ ⟨kJ,kJ,trivial⟩ rfl rfl),by dsimp only;omega⟩
           ·rw [if_neg T] at g
            refine kW ?_;refine kC (fun hb=> ?_) fun hb=> ?_
            ·refine kW ?_
             refine aR ⟨_,rfl,?_⟩;rw [←g];rfl
            ·simp [T] at hb
  ·rw [hq] at hb
   have hnq: ¬yV C=true:=by rw [hb];simp
   have I:qs C=if Lib.indexByte C 58= -1 then ([],[],10) else if ((tr (C.take (Lib.indexByte C 58).toNat)).isEmpty||sv (tr (C.take (Lib.indexByte C 58).toNat))||(tr (C.take (Lib.indexByte C 58).toNat)).contains 44||(tr (C.take (Lib.indexByte C 58).toNat)).contains 93||(tr (C.take (Lib.indexByte C 58).toNat)).contains 125)=true then ([],[],10) else (tr (C.take (Lib.indexByte C 58).toNat),C.drop ((Lib.indexByte C 58).toNat+1),0):=by rw [qs,if_neg hnq]
   have hkr:=AY (s:=C) (key:=tr a) (rest:=b);refine kW ?_;refine kQ [.v (.bool (sv (tr a))),.v (.bool ((tr a).contains 44)),.v (.bool ((tr a).contains 93)),.v (.bool ((tr a).contains 125))] ?_;refine kC (fun hb=> ?_) fun hb=> ?_
   ·rw [bw] at hb
    have hkf2:qs C=([],[],10):=by
     rw [I];split at j
     ·rename_i hi;rw [if_pos hi]
     ·rename_i hi
      rw [if_neg hi];injection j with j
      injection j with h1 j
      injection h1 with h1
      have h1:=cL.1 h1;rw [h1,if_pos hb]
    rw [hkf2,u7,if_pos (by decide)] at g;refine kW ?_;refine kC (fun hb=> ?_) fun hb=> ?_
    ·refine kW ?_
     refine aR ⟨_,rfl,?_⟩;rw [←g];rfl
    ·simp at hb
   ·rw [bw] at hb
    split at j
    ·rename_i hi
     rw [if_pos hi] at I;rw [I,u7,if_pos (by decide)] at g;injection j with j
     injection j with h1 j
     injection j with h2 j
     injection j with h3 j
     injection h3 with h3
     subst h3;refine kW ?_;refine kC (fun hb=> ?_) fun hb=> ?_
     ·refine kW ?_
      refine aR ⟨_,rfl,?_⟩;rw [←g];rfl
     ·simp at hb
    ·rename_i hi
     rw [if_neg hi] at I;injection j with j
     injection j with h1 j
     injection j with h2 j
     injection j with h3 j
     injection h1 with h1
     injection h2 with h2
     injection h3 with h3
     have h1:=cL.1 h1;have h2:=cL.1 h2;subst h3;rw [h1,h2,if_neg (by rw [hb];simp)] at I;have hkl:=hkr I;rw [I,u7,if_neg (by simp)] at g;clear hu P htr hod hc1 hc2 hc3 hq I hkr hb h1 h2 hi;generalize tr a=key at*;generalize hrest:b=rest at*;have hgt:=fS (b8 out) (toB key) (eh J.1 fun p hp=>(J.2 p hp).2.1) (by rw [bS];omega);refine kW ?_;refine kC (fun hb=> ?_) fun hb=> ?_
     ·simp at hb
     ·refine kW ?_
      refine kQ [.v (.tup [(vA (((bh (toB key) out).getD V.null))),.bool (bh (toB key) out).isSome])] ?_;refine kW ?_;refine kC (fun hb=> ?_) fun hb=> ?_
      ·rw [if_pos hb] at g
       refine kW ?_;refine aR ⟨_,rfl,?_⟩;rw [←g];rfl
      ·rw [if_neg (by rw [hb];simp)] at g
       have hone:=hP m [44,125] rest (by omega) (by omega);have U:=dJ m (.one [44,125]) rest (by omega) (by simp only [b9];omega) trivial;generalize br m (.one [44,125]) rest=q at*;obtain ⟨v,more,e⟩:=q;dsimp only at g;refine kW ?_;refine kQ [.v (fA (v,more,e))] ?_;refine kW ?_;refine kC (fun hb=> ?_) fun hb=> ?_
       ·have he:e≠0:=by simpa using hb
        rw [if_pos he] at g;refine kW ?_;refine aR ⟨_,rfl,?_⟩;rw [←g];rfl
       ·have he:e=0:=by simpa using hb
        subst he;rw [if_neg (by simp)] at g;have hf:=U.fit rfl;simp only [b9] at hf;have hv1:=v.size_pos;have hp1:=eO more 125;have hp2:=eO more 44;have hpt:=mc (b8 out) (toB key) v (eh J.1 fun p hp=>(J.2 p hp).2.1) (by rw [bS];omega);have hms:=eN (toB key) v out;have hrd2:=J.put (k:=toB key) (x:=v) (by rw [ae];omega) U.ord U.sb;refine kW ?_;refine kQ [.v ((vA ((b8 (ap (toB key) v out)))))] ?_;refine kW ?_;refine kQ [.v (.bool (bu 125 more))] ?_;cases more with
        |nil=>
         refine kC (fun hb=> ?_) fun hb=> ?_
         ·cases hb
         ·refine kW ?_
          refine kQ [.v (.bool false)] ?_;refine kW ?_;refine kC (fun hb=> ?_) fun hb=> ?_
          ·refine kW ?_
           refine aR ⟨_,rfl,?_⟩;rw [←g];rfl
          ·simp at hb
        |cons c u=>
         have hsz:(toB (c::u)).size=u.length+1:=rfl;have h2:=mE u;simp only [gA3] at hf;dsimp only at g;refine kC (fun hb=> ?_) fun hb=> ?_
         ·have hc:c=125:=by simpa [bu] using hb
          rw [if_pos hc] at g;refine kW ?_;refine kP [.v (.str (toB (tl u)))] ?_ ?_
          ·((repeat' apply aI)<;>first|exact kD|(intro hgd;refine ⟨?_,kG⟩;(repeat' apply aI)<;>first|exact kD|skip)|skip)
           all_goals first|(rw [hsz];omega)|(rw [wt];exact h2)|skip
          refine kW ?_;refine aR ⟨_,rfl,?_⟩;rw [←g];rfl
         ·have hc:c≠125:=by simpa [bu] using hb
          rw [if_neg hc] at g;refine kW ?_;refine kQ [.v (.bool (c==44))] ?_;by_cases T:c=44
          ·rw [if_pos T] at g
           refine kW ?_;refine kC (fun hb=> ?_) fun hb=> ?_
           ·simp [T] at hb
           ·refine kW ?_
            refine kP [] ?_ ?_
            ·((repeat' apply aI)<;>first|exact kD|(intro hgd;refine ⟨?_,kG⟩;(repeat' apply aI)<;>first|exact kD|skip)|skip)
             all_goals (rw [hsz];omega)
            refine kW ?_;rw [wt];exact AK.lp ⟨(ap (toB key) v out,u,m),⟨g,by dsimp only;omega,by dsimp only;omega,by dsimp only;omega,hrd2⟩,(wO ⟨kI,kI,kI,kI,kI,trivial⟩ ⟨kJ,kJ,trivial⟩ rfl rfl),by dsimp only;omega⟩
          ·rw [if_neg T] at g
           refine kW ?_;refine kC (fun hb=> ?_) fun hb=> ?_
           ·refine kW ?_
            refine aR ⟨_,rfl,?_⟩;rw [←g];rfl
           ·simp [T] at hb
def Dl (m:Nat) (ends:Bs):Bs→V×Bs×Int
 | []=>(V.null,[],10)
 |c::t=>if c=91 then xE m t else if c=123 then xF m t else if isQ c=true then (match lr (c::t) with
  |none=>(V.str ⟨#[]⟩,[],11)
  |some (x,rest)=>(V.str (toB x),tl rest,0))
  else if di (tr ((c::t).take (cz ends (c::t))))=true then (V.null,[],10)
  else ((bn (toB (tr ((c::t).take (cz ends (c::t)))))).1,(c::t).drop (cz ends (c::t)),(bn (toB (tr ((c::t).take (cz ends (c::t)))))).2)
theorem Jm (m:Nat) (ends s:Bs):br (m+1) (.one ends) s=Dl m ends (tl s):=by
 rw [br];generalize tl s=g;cases g with
 |nil=>rfl
 |cons c t=>
  simp only [Dl,xE,xF];split
  ·generalize tl t=u
   cases u<;>rfl
  ·split
   ·generalize tl t=u
    cases u<;>rfl
   ·rfl
theorem Dm (p:UInt8→Bool): ∀(l:Bs) (i:Nat),i≤l.length→(∀j c,j<i→l[j]? =some c→p c=true)→(∀c,l[i]? =some c→p c=false)→(l.takeWhile p).length=i
 | [],i,h,_,_=>by simp at h;subst h;rfl
 |d::l,0,_,_,g=>by rw [List.takeWhile_cons,if_neg (by rw [g d rfl];simp)];rfl
 |d::l,i+1,h,C,g=>by
  rw [List.takeWhile_cons,if_pos (C 0 d (by omega) rfl),gA3,Dm p l i (by simpa using h) (fun j c I r=>C (j+1) c (by omega) (by simpa using r)) (fun c r=>g c (by simpa using r))]
theorem A9 (s ends:Bs) (n:Nat) (hs:s.length≤1000000) (hn:2*s.length+1≤n) (hF: ∀n t,t.length<s.length→2*t.length+2≤n→AC Tryz.prog 201 [.str (toB t)] (fA (xE n t)))
  (hB: ∀n t,t.length<s.length→2*t.length+2≤n→AC Tryz.prog 202 [.str (toB t)] (fA (xF n t))):AC Tryz.prog 149 [.str (toB s),.str (toB ends)] (fA (br n (.one ends) s)):=by
 obtain ⟨m,rfl⟩: ∃k,n=k+1:=⟨n-1,by omega⟩
 rw [Jm];have htl:=mE s;have htz:=cQ s;refine kE Tryz.func149 wn wo fun E hE=> ?_
 refine kW ?_;refine kQ [.v (.str (toB (tl s)))] ?_;refine kW ?_;generalize tl s=g at*;have hs1:g.length≤1000000:=by omega
 generalize r:Dl m ends g=R;have hp1:=eO g 91;have hp2:=eO g 123;refine kQ [.v (.bool (bu 91 g))] ?_;refine kW ?_;refine kC (fun hb=> ?_) fun hb=> ?_
 ·cases g with
  |nil=>cases hb
  |cons c t=>
   have hc:c=91:=by simpa [bu] using hb
   simp only [gA3] at htz;rw [Dl,if_pos hc] at r;have hf:=hF m t (by omega) (by omega);have hsz:(toB (c::t)).size=t.length+1:=rfl;refine kW ?_;refine kP [.v (fA (xE m t))] ?_ ?_
   ·((repeat' apply aI)<;>first|exact kD|(intro C;refine ⟨?_,kG⟩;(repeat' apply aI)<;>first|exact kD|skip)|skip)
    all_goals first|(rw [hsz];omega)|(rw [wt];exact hf)|skip
   refine kW ?_;refine aR ⟨_,rfl,?_⟩;rw [←r];rfl
 ·have hb1:=hb
  refine kW ?_;refine kQ [.v (.bool (bu 123 g))] ?_;refine kW ?_;refine kC (fun hb=> ?_) fun hb=> ?_
  ·cases g with
   |nil=>cases hb
   |cons c t=>
    have hc:c=123:=by simpa [bu] using hb
    have U: ¬c=91:=by simpa [bu] using hb1
    simp only [gA3] at htz;rw [Dl,if_neg U,if_pos hc] at r;have hf:=hB m t (by omega) (by omega);have hsz:(toB (c::t)).size=t.length+1:=rfl;refine kW ?_;refine kP [.v (fA (xF m t))] ?_ ?_
    ·((repeat' apply aI)<;>first|exact kD|(intro C;refine ⟨?_,kG⟩;(repeat' apply aI)<;>first|exact kD|skip)|skip)
     all_goals first|(rw [hsz];omega)|(rw [wt];exact hf)|skip
    refine kW ?_;refine aR ⟨_,rfl,?_⟩;rw [←r];rfl
  ·have hb2:=hb
   have hq:=uZ g;have hu:=iH (toB g) (by rw [ae];omega);rw [yU,lv] at hu;refine kW ?_;refine kP [] ?_ ?_
   ·((repeat' apply aI)<;>first|exact kD|(intro C;refine ⟨?_,kG⟩;(repeat' apply aI)<;>first|exact kD|skip)|skip)
    all_goals
     cases g with
     |nil=>simp [gd,bw] at C
     |cons c l=>rw [ae,gA3];omega
   refine kC (fun hb=> ?_) fun hb=> ?_
   ·rw [hq] at hb
    cases g with
    |nil=>cases hb
    |cons c t=>
     have U: ¬c=91:=by simpa [bu] using hb1
     have hc2: ¬c=123:=by simpa [bu] using hb2
     have hqc:isQ c=true:=hb;rw [Dl,if_neg U,if_neg hc2,if_pos hqc] at r;refine kW ?_;cases hx:lr (c::t) with
     |none=>
      rw [hx] at hu r;simp only [qA] at hu;dsimp only at r;have h1:=l8 ⟨#[]⟩;have h2:=mE [];refine kQ [.v (.tup [.str ⟨#[]⟩,.str ⟨#[]⟩,.int .i64 11])] ?_;refine kW ?_;refine kQ [.v ((vA ((V.str ⟨#[]⟩)))),.v (.str (toB (tl [])))] ?_;refine kW ?_;refine aR ⟨_,rfl,?_⟩;rw [←r];rfl
     |some p=>
      obtain ⟨x,rest⟩:=p;rw [hx] at hu r;simp only [qA] at hu;dsimp only at r;have h1:=l8 (toB x);have h2:=mE rest;refine kQ [.v (.tup [.str ⟨x.toArray⟩,.str ⟨rest.toArray⟩,.int .i64 0])] ?_;refine kW ?_;refine kQ [.v ((vA ((V.str (toB x))))),.v (.str (toB (tl rest)))] ?_;refine kW ?_;refine aR ⟨_,rfl,?_⟩;rw [←r];rfl
   ·rw [hq] at hb
    have hR2:(if di (tr (g.take (cz ends g)))=true then (V.null,[],(10:Int)) else ((bn (toB (tr (g.take (cz ends g))))).1,g.drop (cz ends g),(bn (toB (tr (g.take (cz ends g))))).2))=R:=by
     rw [←r];cases g with
     |nil=>
      have h0:cz ends []=0:=by unfold cz;split<;>rfl
      rw [h0,if_pos (by rfl)];rfl
     |cons c t=>
      have U: ¬c=91:=by simpa [bu] using hb1
      have hc2: ¬c=123:=by simpa [bu] using hb2
      have hqc: ¬isQ c=true:=by rw [show isQ c=false from hb];simp
      rw [Dl,if_neg U,if_neg hc2,if_neg hqc]
    clear r hb hq hu hb1 hb2 hp1 hp2 htl hF hB;have r:=hR2;clear hR2;have hne:=bw ends;refine kW ?_;refine kC (fun hb=> ?_) fun hb=> ?_
    ·rw [hne] at hb
     have P:ends≠ []:=by intro h;subst h;simp at hb
     have hE:cz ends g=(g.takeWhile fun c=> !ends.contains c).length:=by rw [cz,if_neg P]
     rw [hE] at r;refine kW ?_;refine aJ (fun i:Nat=>(ax [(0,.str (toB g)),(1,.str (toB ends)),(4,.ptr 4 0),(5,.str ⟨#[]⟩),(6,.int .i64 0),(10,.int .i64 i)],⟨ah [(4,[.int .i64 0,.bool false,.int .i64 0,.str ⟨#[]⟩,.lst .nil 6 [],.lst .nil 7 []],false)],fun _=>0⟩)) (fun i=>i≤g.length∧ ∀j c,j<i→g[j]? =some c→(!ends.contains c)=true) (fun i=>g.length-i) 0 ⟨by omega,fun j c hj=>by omega⟩ (wO ⟨kI,kI,kI,kI,kI,kI,trivial⟩ ⟨kJ,trivial⟩ rfl rfl) fun i ⟨hi,hall⟩=> ?_
     refine kW ?_;by_cases hlt:i<g.length
     ·obtain ⟨c,hc⟩: ∃c,g[i]? =some c:=⟨_,gA1 hlt⟩
      have hat:(toB g).data.getD (i:Int).toNat 0=c:=ei (by simpa using hc);have hix:=A8 ends c;have him:=y5 ends c;refine kP [.v (.int .i64 (Lib.indexByte ends c))] ?_ ?_
      ·((repeat' apply aI)<;>first|exact kD|(intro C;refine ⟨?_,kG⟩;(repeat' apply aI)<;>first|exact kD|skip)|skip)
       all_goals first|(rw [ae];omega)|(rw [hat];exact hix)|skip
      have hz:decide ((i:Int)<(toB g).size)=true:=by rw [ae];simpa using hlt
      rw [hz];cases T:ends.contains c with
      |true=>
       rw [T] at him;have h0:0≤Lib.indexByte ends c:=by simpa using him
       refine kC (fun hb=> ?_) fun hb=> ?_
       ·exfalso
        have:Lib.indexByte ends c<0:=by simpa using hb
        omega
       ·have he:=Dm (fun c=> !ends.contains c) g i hi hall (fun d hd=>by rw [hc] at hd;cases hd;rw [T];rfl)
        rw [he] at r;refine AK.exit rfl ?_;have hwl:=ia (g.take i);have J:(tr (g.take i)).length≤1000000:=by rw [gA7] at hwl;omega
        have htr:=Dg (g.take i) (by rw [gA7];omega);have hod:=xC (tr (g.take i));have hco:=nV (tr (g.take i)) [58,32] J;have hsu:=qv (tr (g.take i)) [58] J;have hsc:=yQ (toB (tr (g.take i))) (by rw [ae];omega);have I:=bw (tr (g.take i));refine kW ?_;refine kP [.v (.str (toB (tr (g.take i))))] ?_ ?_
        ·((repeat' apply aI)<;>first|exact kD|(intro C;refine ⟨?_,kG⟩;(repeat' apply aI)<;>first|exact kD|skip)|skip)
         all_goals first|(rw [ae];omega)|(rw [fJ _ _ (by omega)];exact htr)|skip
        refine kW ?_;generalize hw:tr (g.take i)=w at*;refine kQ [.v (.bool (sv w)),.v (.bool (Lib.contains w [58,32])),.v (.bool (Lib.hasSuffix w [58]))] ?_;refine kC (fun hb=> ?_) fun hb=> ?_
        ·rw [I] at hb
         rw [if_pos (show di w=true from hb)] at r;refine kW ?_;refine aR ⟨_,rfl,?_⟩;rw [←r];rfl
        ·rw [I] at hb
         rw [if_neg (show¬di w=true by rw [show di w=false from hb];simp)] at r;refine kW ?_;refine kQ [.v (.tup [(vA ((bn (toB w)).1)),.int .i64 (bn (toB w)).2])] ?_;refine kW ?_;refine kP [] ?_ ?_
         ·((repeat' apply aI)<;>first|exact kD|(intro C;refine ⟨?_,kG⟩;(repeat' apply aI)<;>first|exact kD|skip)|skip)
          all_goals (rw [ae];omega)
         refine kW ?_;refine aR ⟨_,rfl,?_⟩;rw [ba,←r];rfl
      |false=>
       rw [T] at him;have h0:Lib.indexByte ends c<0:=by simpa using him
       refine kC (fun hb=> ?_) fun hb=> ?_
       ·refine kW ?_
        exact AK.lp ⟨i+1,⟨by omega,fun j d hj hd=>by
         by_cases e:j=i
         ·subst e;rw [hc] at hd;cases hd;rw [T];rfl
         ·exact hall j d (by omega) hd⟩,(wO ⟨kI,kI,kI,kI,kI,kU,trivial⟩ ⟨kJ,trivial⟩ rfl rfl),by omega⟩
       ·exfalso
        have: ¬Lib.indexByte ends c<0:=by simpa using hb
        omega
     ·have hz:decide ((i:Int)<(toB g).size)=false:=by rw [ae];simpa using hlt
      refine kP [.v (.int .i64 0)] ?_ ?_
      ·((repeat' apply aI)<;>first|exact kD|(intro C;refine ⟨?_,kG⟩;(repeat' apply aI)<;>first|exact kD|skip)|skip)
       all_goals (exfalso;rw [hz] at C;simp [gd] at C)
      rw [hz];refine kC (fun hb=> ?_) fun hb=> ?_
      ·cases hb
      ·have he:=Dm (fun c=> !ends.contains c) g i hi hall (fun d hd=>by have:=(gA0 hd).1;omega)
       rw [he] at r;refine AK.exit rfl ?_;have hwl:=ia (g.take i);have J:(tr (g.take i)).length≤1000000:=by rw [gA7] at hwl;omega
       have htr:=Dg (g.take i) (by rw [gA7];omega);have hod:=xC (tr (g.take i));have hco:=nV (tr (g.take i)) [58,32] J;have hsu:=qv (tr (g.take i)) [58] J;have hsc:=yQ (toB (tr (g.take i))) (by rw [ae];omega);have I:=bw (tr (g.take i));refine kW ?_;refine kP [.v (.str (toB (tr (g.take i))))] ?_ ?_
       ·((repeat' apply aI)<;>first|exact kD|(intro C;refine ⟨?_,kG⟩;(repeat' apply aI)<;>first|exact kD|skip)|skip)
        all_goals first|(rw [ae];omega)|(rw [fJ _ _ (by omega)];exact htr)|skip
       refine kW ?_;generalize hw:tr (g.take i)=w at*;refine kQ [.v (.bool (sv w)),.v (.bool (Lib.contains w [58,32])),.v (.bool (Lib.hasSuffix w [58]))] ?_;refine kC (fun hb=> ?_) fun hb=> ?_
       ·rw [I] at hb
        rw [if_pos (show di w=true from hb)] at r;refine kW ?_;refine aR ⟨_,rfl,?_⟩;rw [←r];rfl
       ·rw [I] at hb
        rw [if_neg (show¬di w=true by rw [show di w=false from hb];simp)] at r;refine kW ?_;refine kQ [.v (.tup [(vA ((bn (toB w)).1)),.int .i64 (bn (toB w)).2])] ?_;refine kW ?_;refine kP [] ?_ ?_
        ·((repeat' apply aI)<;>first|exact kD|(intro C;refine ⟨?_,kG⟩;(repeat' apply aI)<;>first|exact kD|skip)|skip)
         all_goals (rw [ae];omega)
        refine kW ?_;refine aR ⟨_,rfl,?_⟩;rw [ba,←r];rfl
    ·rw [hne] at hb
     have P:ends= []:=by simpa [List.isEmpty_iff] using hb
     have hE:cz ends g=g.length:=by rw [cz,if_pos P]
     rw [hE] at r;have hszz:((toB g).size:Int)=(g.length:Int):=rfl;rw [hszz];have hwl:=ia (g.take (g.length));have J:(tr (g.take (g.length))).length≤1000000:=by rw [gA7] at hwl;omega
     have htr:=Dg (g.take (g.length)) (by rw [gA7];omega);have hod:=xC (tr (g.take (g.length)));have hco:=nV (tr (g.take (g.length))) [58,32] J;have hsu:=qv (tr (g.take (g.length))) [58] J;have hsc:=yQ (toB (tr (g.take (g.length)))) (by rw [ae];omega);have I:=bw (tr (g.take (g.length)));refine kW ?_;refine kP [.v (.str (toB (tr (g.take (g.length)))))] ?_ ?_
     ·((repeat' apply aI)<;>first|exact kD|(intro C;refine ⟨?_,kG⟩;(repeat' apply aI)<;>first|exact kD|skip)|skip)
      all_goals first|(rw [ae];omega)|(rw [fJ _ _ (by omega)];exact htr)|skip
     refine kW ?_;generalize hw:tr (g.take (g.length))=w at*;refine kQ [.v (.bool (sv w)),.v (.bool (Lib.contains w [58,32])),.v (.bool (Lib.hasSuffix w [58]))] ?_;refine kC (fun hb=> ?_) fun hb=> ?_
     ·rw [I] at hb
      rw [if_pos (show di w=true from hb)] at r;refine kW ?_;refine aR ⟨_,rfl,?_⟩;rw [←r];rfl
     ·rw [I] at hb
      rw [if_neg (show¬di w=true by rw [show di w=false from hb];simp)] at r;refine kW ?_;refine kQ [.v (.tup [(vA ((bn (toB w)).1)),.int .i64 (bn (toB w)).2])] ?_;refine kW ?_;refine kP [] ?_ ?_
      ·((repeat' apply aI)<;>first|exact kD|(intro C;refine ⟨?_,kG⟩;(repeat' apply aI)<;>first|exact kD|skip)|skip)
       all_goals (rw [ae];omega)
      refine kW ?_;refine aR ⟨_,rfl,?_⟩;rw [ba,←r];rfl
theorem Dn: ∀N,N≤1000000→HE N
 |0,_=>fun n ends s g hn=>A9 s ends n (by omega) hn (fun n t ht=>by omega) (fun n t ht=>by omega)
 |N+1,i=>fun n ends s g hn=>A9 s ends n (by omega) hn (fun n t ht hn=>KT (Dn N (by omega)) (by omega) n t (by omega) hn) (fun n t ht hn=>HF (Dn N (by omega)) (by omega) n t (by omega) hn)
end Go.Proofs.YtbgflifmanjpjaaGreatDoor
