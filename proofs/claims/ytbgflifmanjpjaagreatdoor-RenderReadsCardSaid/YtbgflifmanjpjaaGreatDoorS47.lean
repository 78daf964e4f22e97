/- Part 47. -/
import Derived.Test.YtbgflifmanjpjaaGreatDoorS46
import Derived.StringKeys
set_option linter.unusedSimpArgs false
set_option linter.unusedVariables false
namespace Go.Proofs.YtbgflifmanjpjaaGreatDoor
section
open Go.RowKit Go.Maps Go.MapKept Go.ChangeMaps
abbrev DF:=List (ByteArray×List ND)
def bc (d:DF):List MRow:=d.map fun p=>([.str p.1],[.lst .any 16 (a7 p.2)])
def Fm (d:DF) (n:ByteArray):Bool:=d.any fun p=>decide (p.1=n)
theorem qi {d:DF} {n:ByteArray}:Fm d n=true↔n∈d.map Prod.fst:=by
 unfold Fm;rw [List.any_eq_true,List.mem_map];exact ⟨fun ⟨p,g,i⟩=>⟨p,g,gB3 i⟩,fun ⟨p,g,i⟩=>⟨p,g,decide_eq_true i⟩⟩
def gn:DF→List ND→Option DF
 |d,[]=>some d
 |d,n::l=>if n.kind≠6 then gn d l else if Fm d n.name=true then none else gn (d++ [(n.name,n.body)]) l
def SzD (d:DF):Prop:= ∀p∈d,p.1.size≤1000000
theorem rZ:Keyed Tryz.prog 9:=string_keyed Tryz.underlying9
theorem uG {s:ByteArray} (h:s.size≤1000000):keyOf Tryz.prog 9 (.string s)=some (.string s.data.toList):=Go.WideMaps.keyOf_string_mk Tryz.underlying9 (by unfold maxLen;omega)
theorem o9 {d:DF} (h:SzD d):KeysOk Tryz.prog 9 (bc d):=fun r hr=>by
 obtain ⟨x,g,rfl⟩:=List.mem_map.1 hr;exact ⟨_,_,rfl,uG (h x g)⟩
theorem Ig {d:DF} {n:ByteArray} (b:List ND) (h:n∉d.map Prod.fst):CW (bc d) [.str n] [.lst .any 16 (a7 b)]=bc (d++ [(n,b)]):=by
 unfold CW;rw [if_neg]
 ·unfold bc
  rw [List.map_append];rfl
 ·rintro ⟨r,hr,g⟩
  obtain ⟨x,i,rfl⟩:=List.mem_map.1 hr;simp at g;exact h (g▸List.mem_map.2 ⟨x,i,rfl⟩)
theorem Fo:MOp Tryz.prog (.new 43) [] [] [(1900101,[mcA (bc [])])] (.np 1900101 0):=Gh rfl
theorem KB {d:DF} (g:SzD d) {n:ByteArray} (hn:n.size≤1000000) (b:List ND) (h:n∉d.map Prod.fst):MOp Tryz.prog (.set 43) [(1900101,[mcA (bc d)])] [.np 1900101 0,.str n,.lst .any 16 (a7 b)] [(1900101,[mcA (bc (d++ [(n,b)]))])] (.bool true):=by
 rw [←Ig b h]
 exact LF (κ:= [.str n]) (vc:= [.lst .any 16 (a7 b)]) rfl Tryz.underlying43 rZ (o9 g) rfl (uG hn) fun c i=>by
  rw [gB1 i];rfl
theorem Mt (w:World):(zeroValue 56).run Tryz.prog w= .ok (.slice none 0 0) w:=kk
theorem NZ (σ:Sg) (esz:Nat):Rel1 σ (.slice none 0 0) (.lst .any esz []):= .lst .any esz [] none 0 0 0 0 (fun _ _=>undef) rfl (gA4 _) (fun h=>by omega) (fun i c h=>by simp at h) (fun i j h=>by omega) (fun i j c a h=>by simp at h) trivial
theorem Nm {d:DF} (i:SzD d) {n:ByteArray} (hn:n.size≤1000000): ∃X,MOp Tryz.prog (.get 43 true) [(1900101,[mcA (bc d)])] [.np 1900101 0,.str n] [(1900101,[mcA (bc d)])] (.tup [.lst .any 16 X,.bool (Fm d n)]):=by
 by_cases h:n∈d.map Prod.fst
 ·obtain ⟨p,C,rfl⟩:=List.mem_map.1 h
  refine ⟨a7 p.2,?_⟩;rw [qi.2 h];exact Gg (κ:= [.str p.1]) (z:= [.lst .any 16 []]) (o:=some [.lst .any 16 (a7 p.2)]) true (id:=1900101) rfl Tryz.underlying43 rZ (o9 i) rfl (uG hn) Mt (fun σ=>NZ σ 16) (List.mem_map.2 ⟨p,C,rfl⟩) (by intro c g;rw [gB1 g];rfl)
 ·refine ⟨[],?_⟩
  rw [Bool.eq_false_iff.2 fun k=>h (qi.1 k)]
  exact Gg (κ:= [.str n]) (z:= [.lst .any 16 []]) (o:=none) true (id:=1900101) rfl Tryz.underlying43 rZ (o9 i) rfl (uG hn) Mt (fun σ=>NZ σ 16) (by
   intro r hr j;obtain ⟨x,I,rfl⟩:=List.mem_map.1 hr;simp at j;exact h (j▸List.mem_map.2 ⟨x,I,rfl⟩)) (by intro c g;rw [gB1 g];rfl)
def Dy:ACode→ACode
 | .seq _ (.seq _ (.seq _ r))=>r
 |c=>c
theorem Nn {E:Env} {Q:Exit→Fr→St→Prop} (l:List ND) (hl:l.length≤1000000) (hn: ∀n∈l,n.name.size≤1000000) (d:DF) (hd:SzD d)
  (U: ∀d',gn d l=some d' →Q .ret (ar [(4,.np 1900101 0),(5,.int .i64 0)]) ⟨ag [(1900101,[mcA (bc d')],false)],fun _=>0⟩)
  (hno:gn d l=none→Q .ret (ar [(4,.raw (.map none)),(5,.int .i64 13)]) ⟨ag [],fun _=>0⟩):
  AK Tryz.prog E Q [.c (Dy bC)] (ar [(1,.lst .any 16 (a7 l)),(6,.np 1900101 0)]) ⟨ag [(1900101,[mcA (bc d)],false)],fun _=>0⟩:=by
 rw [bC];simp only [Dy];refine kW ?_;refine aJ (fun x:Nat×DF=>(ar [(6,.np 1900101 0),(24,.lst .any 16 (a7 l)),(25,.int .i64 l.length),(26,.int .i64 x.1)],⟨ag [(1900101,[mcA (bc x.2)],false)],fun _=>0⟩)) (fun x=>x.1≤l.length∧gn x.2 (l.drop x.1)=gn d l∧SzD x.2) (fun x=>l.length-x.1) (0,d) ⟨gB8 _,rfl,hd⟩ (wN ⟨kI,kI,⟨_,rfl,.of_eq (congrArg (AV.int _) (congrArg Int.ofNat (gv l)))⟩,kI,trivial⟩ ⟨kJ,trivial⟩ rfl rfl ⟨rfl,trivial⟩) fun ⟨k,i⟩ ⟨hk,g,j⟩=> ?_
 dsimp only at hk g j;refine kW ?_;refine kC (fun hb=> ?_) fun hb=> ?_
 ·have J:k<l.length:=by simpa using hb
  clear hb;obtain ⟨n,hg⟩: ∃n,l[k]? =some n:=⟨_,gA1 J⟩
  have r:=hn n (gA2 hg)
  have hdr:l.drop k=n::l.drop (k+1):=by
   rw [List.drop_eq_getElem_cons J];rw [gA1 J] at hg;cases hg;rfl
  rw [hdr,gn] at g;have C:=JS hg;obtain ⟨P,nt,nx,ny,I,R,nl⟩:=n;rw [ND.row_eq] at C;have r:I.size≤1000000:=r;have g:(if P≠6 then gn i (l.drop (k+1)) else if Fm i I=true then none else gn (i++ [(I,R)]) (l.drop (k+1)))=gn d l:=g;refine kW ?_;refine kP [.c (ndV P nt nx ny I R nl)] ?_ ?_
  ·((repeat' apply aI)<;>first|exact kD|(intro hgd;refine ⟨?_,kG⟩;(repeat' apply aI)<;>first|exact kD|skip)|skip)
   all_goals first|exact C|(rw [gv];omega)|skip
  refine kW ?_;refine kC (fun hb=> ?_) fun hb=> ?_
  ·have h6:P≠6:=by
    intro h;subst h;cases hb
   clear hb;rw [if_pos h6] at g;refine AK.exit rfl ?_;refine kW ?_;exact AK.lp ⟨(k+1,i),⟨by dsimp only;omega,g,j⟩,wN ⟨kI,kI,kI,kU,trivial⟩ ⟨kJ,trivial⟩ rfl rfl ⟨rfl,trivial⟩,by dsimp only;omega⟩
  have h6:P=6:=by
   have:(P:Int)=6:=by simpa using hb
   omega
  clear hb;rw [if_neg (fun h=>h h6)] at g;obtain ⟨X,hX⟩:=Nm j r;refine kW ?_;refine kQ [.s [1900101] [(1900101,[mcA (bc i)])] (.tup [.lst .any 16 X,.bool (Fm i I)])] ?_;refine kW ?_;refine kC (fun hb=> ?_) fun hb=> ?_
  ·rw [if_pos hb] at g
   clear hb;refine kW ?_;refine AK.weak (wN (row:=fun _=>0) (L:= [(4,.raw (.map none)),(5,.int .i64 13)]) (BL:= []) ⟨kI,kI,trivial⟩ trivial rfl rfl trivial) ?_;exact aR (hno g.symm)
  ·have T: ¬Fm i I=true:=by rw [hb];decide
   clear hb;rw [if_neg T] at g;have hset:=KB j r R (fun h=>T (qi.2 h));refine kW ?_;refine kQ [.s [1900101] [(1900101,[mcA (bc (i++ [(I,R)]))])] (.bool true)] ?_;refine kW ?_;exact AK.lp ⟨(k+1,i++ [(I,R)]),⟨by dsimp only;omega,g,fun p hp=>(gB5 hp).elim (j p) fun h=>by rw [gB1 h];exact r⟩,wN ⟨kI,kI,kI,kU,trivial⟩ ⟨kJ,trivial⟩ rfl rfl ⟨rfl,trivial⟩,by dsimp only;omega⟩
 ·have hge:k=l.length:=by
   have: ¬k<l.length:=by simpa using hb
   omega
  clear hb;rw [gB6 (by omega)] at g;refine AK.exit rfl ?_;refine kW ?_;refine AK.weak (wN (row:=fun _=>0) (L:= [(4,.np 1900101 0),(5,.int .i64 0)]) (BL:= [(1900101,[mcA (bc i)],false)]) ⟨kI,kI,trivial⟩ ⟨kJ,trivial⟩ rfl rfl ⟨rfl,trivial⟩) ?_;exact aR (U i g.symm)
theorem Dz (l:List ND) (hl:l.length≤1000000) (hn: ∀n∈l,n.name.size≤1000000) (d' :DF) (h:gn [] l=some d'):MS Tryz.prog 26 [] [.raw (.map none),.lst .any 16 (a7 l)] [(1900101,[mcA (bc d')])] (.tup [.np 1900101 0,.int .i64 0]):=by
 refine MS.enter Tryz.func26 eV eW (by rfl) (by rfl) fun E I=> ?_
 show AK _ _ _ [.c bC] _ _
 have g:=Nn (E:=E) (Q:=RQS eU.res [(1900101,[mcA (bc d')])] (.tup [.np 1900101 0,.int .i64 0])) l hl hn [] (fun p C=>by cases C) (fun J i=>by
  rw [h] at i;cases i;exact ⟨⟨_,rfl,rfl⟩,⟨_,rfl,rfl⟩,trivial⟩) (fun i=>by rw [h] at i;cases i)
 rw [bC] at g⊢;simp only [Dy] at g;have j:=Fo;refine kW ?_;refine kQ [.s [] [(1900101,[mcA (bc [])])] (.np 1900101 0)] ?_;refine kS ?_;refine AK.mrange0 [] (fun r=>(ar [(1,.lst .any 16 (a7 l)),(6,.np 1900101 0),(15,itA r)],⟨ag [(1900101,[mcA (bc [])],false)],fun _=>0⟩)) ?_ ?_ ?_ ?_
 ·trivial
 ·exact fun r=>wN ⟨kI,kI,kI,trivial⟩ ⟨kJ,trivial⟩ rfl rfl ⟨rfl,trivial⟩
 ·exact fun r=>rfl
 ·refine fun r=>⟨[],_,_,_,_,rfl,trivial,?_⟩
  refine kS ?_;refine kCf ?_;refine AK.exitQ ⟨rfl,?_⟩;exact AK.weak (wN (row:=fun _=>0) (L:= [(1,.lst .any 16 (a7 l)),(6,.np 1900101 0)]) (BL:= [(1900101,[mcA (bc [])],false)]) ⟨kI,kI,trivial⟩ ⟨kJ,trivial⟩ rfl rfl ⟨rfl,trivial⟩) g
theorem DA (l:List ND) (hl:l.length≤1000000) (hn: ∀n∈l,n.name.size≤1000000) (h:gn [] l=none):MS Tryz.prog 26 [] [.raw (.map none),.lst .any 16 (a7 l)] [] (.tup [.raw (.map none),.int .i64 13]):=by
 refine MS.enter Tryz.func26 eV eW (by rfl) (by rfl) fun E I=> ?_
 show AK _ _ _ [.c bC] _ _;have g:=Nn (E:=E) (Q:=RQS eU.res [] (.tup [.raw (.map none),.int .i64 13])) l hl hn [] (fun p C=>by cases C) (fun J i=>by rw [h] at i;cases i) (fun _=>⟨⟨_,rfl,rfl⟩,trivial⟩);rw [bC] at g⊢;simp only [Dy] at g;have j:=Fo;refine kW ?_;refine kQ [.s [] [(1900101,[mcA (bc [])])] (.np 1900101 0)] ?_;refine kS ?_;refine AK.mrange0 [] (fun r=>(ar [(1,.lst .any 16 (a7 l)),(6,.np 1900101 0),(15,itA r)],⟨ag [(1900101,[mcA (bc [])],false)],fun _=>0⟩)) ?_ ?_ ?_ ?_
 ·trivial
 ·exact fun r=>wN ⟨kI,kI,kI,trivial⟩ ⟨kJ,trivial⟩ rfl rfl ⟨rfl,trivial⟩
 ·exact fun r=>rfl
 ·refine fun r=>⟨[],_,_,_,_,rfl,trivial,?_⟩
  refine kS ?_;refine kCf ?_;refine AK.exitQ ⟨rfl,?_⟩;exact AK.weak (wN (row:=fun _=>0) (L:= [(1,.lst .any 16 (a7 l)),(6,.np 1900101 0)]) (BL:= [(1900101,[mcA (bc [])],false)]) ⟨kI,kI,trivial⟩ ⟨kJ,trivial⟩ rfl rfl ⟨rfl,trivial⟩) g
theorem DB {l:DF} {g i:List MRow} {row:MRow} (h:bc l=g++row::i): ∃(a:DF) (e:ByteArray×List ND) (b:DF),l=a++e::b∧g=bc a∧row=([.str e.1],[.lst .any 16 (a7 e.2)])∧i=bc b:=by
 unfold bc at h;obtain ⟨a,b,rfl,j,p⟩:=List.map_eq_append_iff.1 h;obtain ⟨e,r,rfl,C,I⟩:=List.map_eq_cons_iff.1 p;exact ⟨a,e,r,rfl,j.symm,C.symm,I.symm⟩
theorem Ba (a b:DF):bc a++bc b=bc (a++b):=by unfold bc;rw [List.map_append]
def clS (g:DF) (l:List ND):List (Nat×List AV):=match gn g l with
 |some d' => [(1900101,[mcA (bc d')])]
 |none=> []
def clR (g:DF) (l:List ND):AV:=match gn g l with
 |some _=> .tup [.np 1900101 0,.int .i64 0]
 |none=> .tup [.raw (.map none),.int .i64 13]
theorem Ih (l:List ND) (hl:l.length≤1000000) (hn: ∀n∈l,n.name.size≤1000000) (d:DF) (hd:SzD d) (hnd:(d.map Prod.fst).Nodup):MS Tryz.prog 26 [(2900001,[mcA (bc d)])] [.np 2900001 0,.lst .any 16 (a7 l)] (clS d l) (clR d l):=by
 refine MS.enter Tryz.func26 eV eW (by rfl) (by rfl) fun E hE=> ?_
 show AK _ _ _ [.c bC] _ _;have g:=Nn (E:=E) (Q:=RQS eU.res (clS d l) (clR d l)) l hl hn d hd (fun d2 C=>by unfold clS clR;rw [C];exact ⟨⟨_,rfl,rfl⟩,⟨_,rfl,rfl⟩,trivial⟩) (fun C=>by unfold clS clR;rw [C];exact ⟨⟨_,rfl,rfl⟩,trivial⟩);rw [bC] at g⊢;simp only [Dy] at g;have hnew:=Fo;refine kW ?_;refine kQ [.s [] [(1900101,[mcA (bc [])])] (.np 1900101 0)] ?_;refine kS ?_;refine AK.mrange 2900001 (bc d) [(2900001,[mcA (bc d)])] [] (fun r (i:DF×DF)=>(ar [(1,.lst .any 16 (a7 l)),(6,.np 1900101 0),(15,itA r)],⟨ag [(1900101,[mcA (bc i.2)],false)],fun _=>0⟩)) (fun i=>(i.1++i.2).Perm d) (fun i=>bc i.1) (d,[]) ?_ ?_ rfl ?_ ?_ ?_ ?_ ?_ ?_ ?_ ?_
 ·trivial
 ·simp
 ·intro x J
  rw [gB1 J];rfl
 ·intro x J
  rw [gB1 J];show 1000000≤2900001;omega
 ·intro x J c hc
  rw [gB1 J] at hc;rw [gB1 hc];rfl
 ·exact List.mem_singleton.2 rfl
 ·exact fun r=>wN ⟨kI,kI,kI,trivial⟩ ⟨kJ,trivial⟩ rfl rfl ⟨rfl,trivial⟩
 ·exact fun r i=>rfl
 ·intro E2 r ⟨left,done⟩ la row lb hE2 P hL R
  obtain ⟨a',⟨j,I⟩,b',rfl,rfl,rfl,rfl⟩:=DB hL;have P:(a' ++(j,I)::b' ++done).Perm d:=P
  have U:((a' ++b')++(done++ [(j,I)])).Perm d:=by
   refine List.Perm.trans ?_ P;rw [List.append_assoc,List.append_assoc];refine List.Perm.append_left _ ?_;rw [List.cons_append,←List.append_assoc];exact List.perm_append_singleton _ _
  have hnz:j.size≤1000000:=hd (j,I) (U.mem_iff.1 (List.mem_append.2 (.inr (List.mem_append.2 (.inr (List.mem_singleton.2 rfl))))));have hdz:SzD done:=fun p h=>hd p (U.mem_iff.1 (List.mem_append.2 (.inr (List.mem_append.2 (.inl h)))))
  have T:j∉done.map Prod.fst:=by
   have h1:=(U.map Prod.fst).nodup_iff.2 hnd;rw [List.map_append] at h1;have C:=(List.nodup_append.1 h1).2.1;rw [List.map_append] at C;have h3:=(List.nodup_append.1 C).2.2;intro hm;exact h3 j hm j (by simp) rfl
  have hset:=KB hdz hnz I T;refine ⟨[],_,_,_,_,rfl,trivial,?_⟩;refine kS ?_;refine kCt ?_;refine kN ?_;refine kB ?_;refine kS ?_;refine AK.ent (rs:= []) R rfl rfl ?_ ?_
  ·(repeat' apply aI)<;>exact kD
  refine kP [.s [1900101] [(1900101,[mcA (bc (done++ [(j,I)]))])] (.bool true)] ?_ ?_
  ·((repeat' apply aI)<;>first|exact kD|(intro hgd;refine ⟨?_,kG⟩;(repeat' apply aI)<;>first|exact kD|skip)|skip)
  refine kL ?_;refine AK.nil ?_;exact LI (a' ++b',done++ [(j,I)]) U (by rw [Ba]) (wN ⟨kI,kI,kI,trivial⟩ ⟨kJ,trivial⟩ rfl rfl ⟨rfl,trivial⟩)
 ·intro E2 r ⟨left,done⟩ hE2 P hL
  have hl0:left= []:=List.map_eq_nil_iff.1 hL;subst hl0;refine ⟨[],_,_,_,_,rfl,trivial,?_⟩;refine kS ?_;refine kCf ?_;refine AK.exitMQ ?_;have hpd:(bc done).Perm (bc d):=List.Perm.map _ P;refine AK.weak (wN (row:=fun _=>0) (L:= [(1,.lst .any 16 (a7 l)),(6,.np 1900101 0)]) (BL:= [(1900101,[mcA (bc done)],false)]) ⟨kI,kI,trivial⟩ ⟨kJ,trivial⟩ rfl rfl ⟨rfl,trivial⟩) ?_;refine AK.weak (Weak.perm (id:=1900101) rfl rfl hpd) ?_;exact AK.weak (wN (row:=fun _=>0) (L:= [(1,.lst .any 16 (a7 l)),(6,.np 1900101 0)]) (BL:= [(1900101,[mcA (bc d)],false)]) ⟨kI,kI,trivial⟩ ⟨kJ,trivial⟩ rfl rfl ⟨rfl,trivial⟩) g
end
section
open Go.RowKit
theorem Bb: ∀(l:List ND) (d d' :DF),(d.map Prod.fst).Nodup→gn d l=some d' →(d'.map Prod.fst).Nodup
 | [],d,d',g,h=>by cases h;exact g
 |n::l,d,d',g,h=>by
  rw [gn] at h;split at h
  ·exact Bb l d d' g h
  ·split at h
   ·cases h
   ·rename_i j
    refine Bb l _ d' ?_ h;rw [List.map_append];refine List.nodup_append.2 ⟨g,by simp,fun a i b hb e=> ?_⟩;rw [List.map_singleton,List.mem_singleton] at hb;exact j (qi.2 (by rw [e,hb] at i;exact i))
theorem Bc: ∀(l:List ND) (d d' :DF),SzD d→(∀n∈l,n.name.size≤1000000)→gn d l=some d' →SzD d'
 | [],d,d',i,_,h=>by cases h;exact i
 |n::l,d,d',i,hn,h=>by
  have hl: ∀n∈l,n.name.size≤1000000:=fun x j=>hn x (List.mem_cons_of_mem _ j)
  rw [gn] at h;split at h
  ·exact Bc l d d' i hl h
  ·split at h
   ·cases h
   ·refine Bc l _ d' (fun p g=> ?_) hl h
    rcases gB5 g with g|g
    ·exact i p g
    ·rw [gB1 g]
     exact hn n (List.mem_cons_self ..)
theorem Ii (s:Bs):(nh s).1.length≤s.length:=by
 have hl:=cL s;unfold nh LB;cases g:tlw s with
 |nil=>exact gB8 _
 |cons c t=>
  rw [g,gA3] at hl;dsimp only;split
  ·exact gB8 _
  ·rename_i h
   split at h
   ·cases h
    have:=gj t;show (nmL t).length≤_;omega
   ·cases h
theorem r6 (s:Bs):(iJ s).1.length≤s.length:=by
 have hl:=Ii s;unfold iJ;generalize nh s=q at*;obtain ⟨n,r,b⟩:=q;dsimp only at hl⊢;cases b
 ·exact hl
 ·dsimp only
  split<;>exact hl
theorem DC (s:Bs):(fR s).2.1.length≤s.length:=by
 have hl:=xg s;have g:=r6 s;unfold fR;generalize nh s=q at*;obtain ⟨key,rest,b⟩:=q;dsimp only at hl⊢;have i:=r6 (rest.drop 1);rw [gA6] at i;generalize iJ (rest.drop 1)=q1 at*;generalize iJ s=j at*;obtain ⟨p,r,C⟩:=q1;obtain ⟨I,J,c2⟩:=j;dsimp only at i g⊢;split<;>split<;>first|exact gB8 _|(show p.length≤_;omega)|exact g
theorem Fp (m:MK) (w s:Bs):(eY m w s).1.name.size≤s.length:=by
 unfold eY;split
 ·exact gB8 _
 ·split
  ·exact gB8 _
  ·split
   ·exact Gz s
   ·show (toB (fR s).2.1).size≤_
    rw [ae];exact DC s
theorem gA: ∀(n:Nat) (k:NM) (m:MK) (N:Nat),m.at_≤m.l.length→(∀t∈m.l,t.s.length≤N)→(match k with| .nodes out=> ∀nd∈out,nd.name.size≤N| .block _ s=>s.length≤N)→ ∀nd∈(ndF n k m).1,nd.name.size≤N
 |0,k,m,N,_,_,_,nd,h=>by cases h
 |n+1,.nodes out,m,N,P,h,j,nd,g=>by
  have j: ∀nd∈out,nd.name.size≤N:=j
  rw [ndF] at g;cases r:m.l[m.at_]? with
  |none=>
   rw [r] at g;exact j nd g
  |some t=>
   rw [r] at g;have ht:=h t (gA2 r);have p:=(gA0 r).1;dsimp only at g;have i:=fun s=>(⟨m.l,m.at_+1,m.deep,m.bad⟩:MK).pipe_at s ⟨MK.pipe_l _ s,p⟩
   have snoc: ∀x:ND,x.name.size≤N→ ∀y∈out++ [x],y.name.size≤N:=fun x r y hy=>(gB5 hy).elim (j y) fun h=>by rw [gB1 h];exact r
   have C:=r6 t.s;split at g
   ·exact gA n (.nodes (out++ [.mk 0 (toB t.s) EX.null ⟨#[]⟩ ⟨#[]⟩ [] []])) ⟨m.l,m.at_+1,m.deep,m.bad⟩ N p h (snoc _ (gB8 _)) nd g
   ·split at g
    ·exact j nd g
    ·split at g
     ·have I:=eR n (.block (nmL t.s) (ck t.s)) ⟨m.l,m.at_+1,m.deep,m.bad⟩ p
      have hb:=gA n (.block (nmL t.s) (ck t.s)) ⟨m.l,m.at_+1,m.deep,m.bad⟩ N p h (by show (ck t.s).length≤N;unfold ck;rw [gA6];omega);exact gA n _ _ N (by rw [I.1];exact I.2.2.1) (by rw [I.1];exact h) (fun y hy=>(gB5 hy).elim (j y) (hb y)) nd g
     ·split at g
      ·rename_i name rest R
       rw [R] at C;exact gA n _ _ N (by rw [(i _).1];exact (i _).2.2) (by rw [(i _).1];exact h) (snoc _ (by show (toB name).size≤N;rw [ae];exact gB7 C ht)) nd g
      ·exact gA n _ _ N (by rw [(i _).1];exact (i _).2.2) (by rw [(i _).1];exact h) (snoc _ (gB8 _)) nd g
 |n+1,.block w s,m,N,P,h,j,nd,g=>by
  have j:s.length≤N:=j;have J:=Fp ⟨m.l,m.at_,IntKind.i64.wrap (m.deep+1),m.bad⟩ w s;rw [ndF] at g;dsimp only at g;split at g
  ·rw [gB1 g]
   exact gB8 _
  ·split at g
   ·rw [gB1 g]
    exact gB7 J j
   ·split at g<;>(rw [gB1 g];exact gB7 J j)
theorem qj (s:Bs): ∀nd∈(cy s).1,nd.name.size≤65536:=by
 have g:=o8 s;unfold cy;generalize cV s=q at g;obtain ⟨l,e⟩:=q;dsimp only at g⊢;intro nd h;split at h
 ·cases h
 ·have hn:=gA (3*l.length+3) (.nodes []) ⟨l,0,0,0⟩ 65536 (gB8 _) g.2 (fun nd h=>by cases h)
  generalize ndF (3*l.length+3) (.nodes []) ⟨l,0,0,0⟩=r at hn h;obtain ⟨out,stop,rest,m⟩:=r;dsimp only at hn h;split at h
  ·cases h
  ·split at h
   ·cases h
   ·exact hn nd h
theorem Fq (s:Bs):(cy s).1.length≤65537:=by
 have g:=o8 s;unfold cy;generalize cV s=q at g;obtain ⟨l,e⟩:=q;dsimp only at g⊢;split
 ·exact gB8 _
 ·have hn:=eR (3*l.length+3) (.nodes []) ⟨l,0,0,0⟩ (gB8 _)
  generalize ndF (3*l.length+3) (.nodes []) ⟨l,0,0,0⟩=r at hn;obtain ⟨out,stop,rest,m⟩:=r;obtain ⟨_,_,i,j,_⟩:=hn;have p:out.length+0≤0+m.at_:=(j _ rfl).1;have i:m.at_≤l.length:=i;dsimp only;split
  ·exact gB8 _
  ·split
   ·exact gB8 _
   ·show out.length≤_
    have:=g.1;omega
def abN:ByteArray:=⟨#[67,104,97,114,116,46,121,97,109,108]⟩
def vaN:ByteArray:=⟨#[118,97,108,117,101,115,46,121,97,109,108]⟩
def teN:ByteArray:=⟨#[116,101,109,112,108,97,116,101,115,47]⟩
structure CS where
 nm:ByteArray
 ver:ByteArray
 v:V
 ts:List (Fl×List ND)
 d:DF
def pa (d:DF) (s:ByteArray):Option (List ND×DF)×Int:=if (cy s.data.toList).2≠0 then (none,(cy s.data.toList).2) else match gn d (cy s.data.toList).1 with
 |none=>(none,13)
 |some d' =>(some ((cy s.data.toList).1,d'),0)
def CS.add (c:CS) (f:Fl) (x:List ND×DF):CS:=⟨c.nm,c.ver,c.v,c.ts++ [(f,x.1)],x.2⟩
def CS.step (c:CS) (f:Fl):CS×Int:=if f.1=abN then (⟨(gU c.nm c.ver f.2).1,(gU c.nm c.ver f.2).2.1,c.v,c.ts,c.d⟩,(gU c.nm c.ver f.2).2.2)
 else if f.1=vaN then (⟨c.nm,c.ver,(wW c.v f.2).1,c.ts,c.d⟩,(wW c.v f.2).2)
 else if gc f.1 teN=true then match pa c.d f.2 with
  |(some x,_)=>(c.add f x,0)
  |(none,e)=>(c,e)
 else (c,0)
def CS.all:CS→List Fl→CS×ByteArray×Int
 |c,[]=>(c,⟨#[]⟩,0)
 |c,f::l=>if (c.step f).2≠0 then (c,f.1,(c.step f).2) else (c.step f).1.all l
def cs0:CS:=⟨⟨#[]⟩,⟨#[]⟩,bP [],[],[]⟩
def Fs (l:List Fl):CS×ByteArray×Int:=if (bp l).2.2≠0 then (cs0,(bp l).2) else if (cs0.all (bp l).1).2.2≠0 then cs0.all (bp l).1 else if (cs0.all (bp l).1).1.nm=⟨#[]⟩ then (cs0,abN,3) else cs0.all (bp l).1
theorem zp {d:DF} {s:ByteArray} {x:List ND×DF} (h:(pa d s).1=some x):(cy s.data.toList).2=0∧x.1=(cy s.data.toList).1∧gn d (cy s.data.toList).1=some x.2∧(pa d s).2=0:=by
 unfold pa at h⊢;split
 ·rename_i g;rw [if_pos g] at h;cases h
 ·rename_i g
  rw [if_neg g] at h;have g:(cy s.data.toList).2=0:=by omega
  cases i:gn d (cy s.data.toList).1 with
  |none=>rw [i] at h;cases h
  |some d' =>rw [i] at h;cases h;exact ⟨g,rfl,rfl,rfl⟩
def fJ (s:ByteArray):Nat→Nat
 |0=>0
 |k+1=>if (s.data.getD k 0).toNat=47 then k+1 else fJ s k
theorem xm (s:ByteArray): ∀k,fJ s k≤k
 |0=>gA4 _
 |k+1=>by
  rw [fJ];split
  ·exact gA4 _
  ·exact Nat.le_succ_of_le (xm s k)
theorem Ft (s:ByteArray) (C:s.size≤140737488355328):AC Tryz.prog 103 [.str s,.int .u8 47] (.int .i64 ((fJ s s.size:Int)-1)):=by
 refine kE Tryz.func103 eP eQ fun E I=> ?_
 refine kW ?_;refine aJ (fun k:Nat=>(ar [(0,.str s),(1,.int .u8 47),(5,.int .i64 ((k:Int)-1))],⟨ag [],fun _=>0⟩)) (fun k=>k≤s.size∧fJ s s.size=fJ s k) (fun k=>k) s.size ⟨gA4 _,rfl⟩ (wO ⟨kI,kI,⟨_,rfl,.of_eq (congrArg (AV.int .i64) (aD (by omega) (by omega)))⟩,trivial⟩ trivial rfl rfl) fun k r=> ?_
 obtain ⟨r,i⟩:=r;refine kW ?_;refine kC (fun hb=> ?_) fun hb=> ?_
 ·obtain ⟨j,rfl⟩: ∃j,k=j+1:=⟨k-1,by
   have:(k:Int)-1≥0:=by simpa using hb
   omega⟩
  clear hb;rw [fJ] at i;rw [show (((j+1:Nat):Int)-1)=(j:Int) by omega];refine kW ?_;refine kQ [] ?_;refine kC (fun hb=> ?_) fun hb=> ?_
  ·have g:(s.data.getD j 0).toNat=47:=by
    have:(((s.data.getD j 0).toNat:Nat):Int)=47:=by simpa using hb
    omega
   rw [if_pos g] at i;rw [i,show (((j+1:Nat):Int)-1)=(j:Int) by omega];refine kW ?_;refine aR ⟨_,rfl,?_⟩;rfl
  ·have g: ¬(s.data.getD j 0).toNat=47:=fun h=>by
    have: ¬(((s.data.getD j 0).toNat:Nat):Int)=47:=by simpa using hb
    omega
   rw [if_neg g] at i;refine kW ?_;exact AK.lp ⟨j,⟨by omega,i⟩,wO ⟨kI,kI,⟨_,rfl,.of_eq (congrArg (AV.int .i64) (aD (by omega) (by omega)))⟩,trivial⟩ trivial rfl rfl,by omega⟩
 ·have p:k=0:=by
   have: ¬(k:Int)-1≥0:=by simpa using hb
   omega
  subst p;clear hb;rw [i];refine AK.exit rfl ?_;refine kW ?_;refine aR ⟨_,rfl,?_⟩;rfl
theorem uk (s:ByteArray) (g:s.size≤140737488355328):AC Tryz.prog 56 [.str s,.int .u8 47] (.int .i64 ((fJ s s.size:Int)-1)):=by
 have h:=Ft s g;refine kE Tryz.func56 gV gW fun E i=> ?_
 refine kW ?_;refine kQ [.v (.int .i64 ((fJ s s.size:Int)-1))] ?_;refine kW ?_;refine aR ⟨_,rfl,?_⟩;rfl
def GA (s:ByteArray):Bool:=decide ((fJ s s.size:Int)<s.size)&&decide (((s.data.getD (fJ s s.size) 0).toNat:Int)=95)
theorem Ij (s:ByteArray):gc (s.extract (fJ s s.size) s.size) ⟨#[95]⟩=GA s:=by
 have g:=xm s s.size;unfold GA;generalize fJ s s.size=n at*;obtain ⟨l,hl⟩: ∃l:Bs,s.extract n s.size=toB l:=⟨(s.extract n s.size).data.toList,(uB _).symm⟩
 rw [hl,jk]
 have i:l=s.data.toList.drop n:=by
  have:(s.extract n s.size).data.toList=l:=by rw [hl];rfl
  rw [←this];simp [ByteArray.data_extract];exact List.take_of_length_le (by simp)
 subst i;by_cases hn:n<s.size
 ·rw [List.drop_eq_getElem_cons (by simpa using hn),decide_eq_true (show (n:Int)<s.size by omega),Bool.true_and]
  dsimp only;rw [Bool.eq_iff_iff,beq_iff_eq,decide_eq_true_iff,Array.getD,dif_pos (show n<s.data.size from hn)];rw [Array.getElem_toList];constructor
  ·intro h
   show ((s.data[n].toNat:Nat):Int)=95;rw [h];rfl
  ·intro h
   have h:((s.data[n].toNat:Nat):Int)=95:=h;exact UInt8.toNat_inj.1 (show s.data[n].toNat=95 by omega)
 ·rw [gB6 (by simpa using Nat.le_of_not_lt hn),decide_eq_false (show¬(n:Int)<s.size by omega)]
  rfl
theorem Ik (s:ByteArray) (i:s.size≤140737488355328):AC Tryz.prog 19 [.str s] (.bool (GA s)):=by
 have j:=xm s s.size;have h:=uk s i;have g:=sB (s.extract (fJ s s.size) s.size) ⟨#[95]⟩;rw [Ij] at g
 have e:IntKind.i64.wrap ((fJ s s.size:Int)-1+1)=(fJ s s.size:Int):=by
  rw [aD (by omega) (by omega)];omega
 refine kE Tryz.func19 oW oX fun E r=> ?_
 refine kW ?_;refine kP [.v (.int .i64 ((fJ s s.size:Int)-1)),.v (.bool (GA s))] ?_ ?_
 ·((repeat' apply aI)<;>first|exact kD|(intro p;refine ⟨?_,kG⟩;(repeat' apply aI)<;>first|exact kD|skip)|skip)
  all_goals first|(rw [e];first|exact g|omega)|skip
 refine kW ?_;refine aR ⟨_,rfl,?_⟩;rfl
end
section
set_option maxRecDepth 100000
set_option maxHeartbeats 20000000
def KC:List Nat:= [2000040,2000041,2000043,2000010,2000026,2000083,2000011]
noncomputable def cM:ACode:=bK Tryz.prog KC Tryz.f43
noncomputable def kX:AFn:=⟨2,53,cM,[.tmp 4]⟩
theorem ib:aq Tryz.prog KC Tryz.f43=some kX:=kk
theorem ic:ab Tryz.prog 43=true:=kk
end
section
open Go.RowKit
theorem kBx {p:Prop} (h:p:=by first|exact ⟨⟨_,rfl,rfl⟩,trivial⟩|exact ⟨⟨_,rfl,rfl⟩,⟨_,rfl,rfl⟩,trivial⟩):p:=h
theorem kBl {p:Prop} (h:p:=by first|exact ⟨kJ,trivial⟩|exact ⟨kJ,kJ,trivial⟩):p:=h
theorem kPv {p:Prop} (h:p:=by first|exact ⟨rfl,trivial⟩|exact ⟨rfl,rfl,trivial⟩):p:=h
abbrev TS:=List (Fl×List ND)
abbrev rowsT2 (ts:TS):List (List AV):=aS (ts.map Prod.fst)
def pb (ts:TS):List (List AV):=ts.map fun t=> [.lst .any 16 (a7 t.2)]
abbrev chU (nm ver:ByteArray) (v:V) (ts:TS) (m:AV):List AV:= [.str nm,.str ver,.int .i64 v.kind,.bool v.b,.int .i64 v.n,.str v.s,.lst .any 6 (aL v.l),.lst .any 7 (am v.m),.lst (.own 2000001 0) 2 (rowsT2 ts),.lst (.own 2000002 0) 1 (pb ts),m]
def mC (k:Nat):Option DF→AV
 |none=> .raw (.map none)
 |some _=> .np k 0
def mS (k:Nat):Option DF→List (Nat×List AV)
 |none=> []
 |some d=> [(k,[mcA (bc d)])]
def chZ (k:Nat) (nm ver:ByteArray) (v:V) (ts:TS) (o:Option DF):List (Nat×List AV):=(2000000,chU nm ver v ts (mC k o))::mS k o
def No (k:Nat) (nm ver:ByteArray) (v:V) (ts:TS) (d:DF):List (Nat×List AV):= [(2000000,chU nm ver v ts (.np k 0)),(k,[mcA (bc d)])]
abbrev qKs:List Nat:= [2000001,2000002]
def bxF (S:List (Nat×List AV)):List (Nat×List AV×Bool):=S.map fun x=>(x.1,x.2,false)
set_option maxHeartbeats 4000000 in
theorem Np (nm ver s:ByteArray) (v0:V) (ts:TS) (o:Option DF):MTK Tryz.prog 40 qKs (chZ 2900001 nm ver v0 ts o) [.np 2000000 0,.str s] qKs (chZ 2900001 (gU nm ver s).1 (gU nm ver s).2.1 v0 ts o) (.int .i64 (gU nm ver s).2.2):=by
 generalize g:gU nm ver s=R;unfold gU at g;have J:=uC s;obtain ⟨hg,j⟩:=oZ s;generalize aY s=P at*;obtain ⟨v,e⟩:=P;dsimp only at g J hg j;have p:=eu v kNm hg.ord (by omega);have r:=eu v Dg hg.ord (by omega);have T:=Dh hg j kNm;have z2:=Dh hg j Dg;have U:=Em (mvK kNm v).s (by omega);unfold Gl at g;unfold mvK at g T z2 U;generalize (aU kNm v.m).getD V.null=x at*;generalize (aU Dg v.m).getD V.null=y at*;rcases o with _|d
 all_goals
  refine MTK.enter Tryz.func40 lq lr (by rfl) (by rfl) fun E hE=> ?_
  show AK _ _ _ [.c ek] _ _;rw [ek];refine kW ?_;refine kQ [.v (.tup [(vA (v)),.int .i64 e])] ?_;refine kW ?_;refine kC (fun hb=> ?_) fun hb=> ?_
  ·have C:e≠0:=by simpa using hb
   rw [if_pos C] at g;subst g;refine kW ?_;exact aR ⟨⟨_,rfl,rfl⟩,kBx⟩
  have C: ¬e≠0:=by simpa using hb
  rw [if_neg C] at g;clear hb;refine kW ?_;refine kP [.v (.tup [(vA (x)),.bool (aU kNm v.m).isSome])] ?_ ?_
  ·((repeat' apply aI)<;>first|exact kD|(intro I;refine ⟨?_,kG⟩;(repeat' apply aI)<;>first|exact kD|skip)|skip)
   all_goals exact p
  refine kW ?_;refine kP [.v (.tup [(vA (y)),.bool (aU Dg v.m).isSome])] ?_ ?_
  ·((repeat' apply aI)<;>first|exact kD|(intro I;refine ⟨?_,kG⟩;(repeat' apply aI)<;>first|exact kD|skip)|skip)
   all_goals exact r
  refine kW ?_;refine kQ [.v (.bool (dF x.s))] ?_
  have e3:IntKind.i64.wrap ((x.s.size:Int)+(y.s.size:Int))=((x.s.size+y.s.size:Nat):Int):=by
   rw [aD (by omega) (by omega)];omega
  have e4:decide (((x.s.size+y.s.size:Nat):Int)>256)=decide (256<x.s.size+y.s.size):=by
   rw [Bool.eq_iff_iff,decide_eq_true_iff,decide_eq_true_iff];omega
  rw [e3,e4];refine kC (fun hb=> ?_) fun hb=> ?_
  ·have i:(!decide (x.kind=3)|| !decide (y.kind=3)|| !dF x.s||decide (y.s=⟨#[]⟩)||decide (256<x.s.size+y.s.size))=true:=by
    rw [←hb]
   rw [if_pos i] at g;subst g;refine kW ?_;exact aR ⟨⟨_,rfl,rfl⟩,kBx⟩
  have i:(!decide (x.kind=3)|| !decide (y.kind=3)|| !dF x.s||decide (y.s=⟨#[]⟩)||decide (256<x.s.size+y.s.size))=false:=by
   rw [←hb]
  rw [if_neg (by rw [i];simp)] at g;subst g;clear hb;refine kW ?_;refine AK.weak (wN (row:=fun _=>0) (L:= [(0,.np 2000000 0),(7,.ptr 7 0),(9,.ptr 9 0)]) (BL:=(7,(vC (x)),false)::(9,(vC (y)),false)::bxF (chZ 2900001 nm ver v0 ts (by first|exact some d|exact none))) ⟨kI,kI,kI,trivial⟩ ⟨kJ,kJ,kBl⟩ rfl rfl kPv) ?_;refine AK.regaE fw0 [] (ar []) ⟨ag (bxF (chZ 2900001 x.s y.s v0 ts (by first|exact some d|exact none))),fun _=>0⟩ ?_ ?_
  ·(repeat' (first|exact trivial|apply aI))
   all_goals exact wN (L:= []) trivial kBl rfl rfl kPv
  refine kW ?_;exact aR ⟨⟨_,rfl,rfl⟩,kBx⟩
theorem N0 (nm ver s:ByteArray) (v0:V) (ts:TS) (o:Option DF):MTK Tryz.prog 41 qKs (chZ 2900001 nm ver v0 ts o) [.np 2000000 0,.str s] qKs (chZ 2900001 nm ver (wW v0 s).1 ts o) (.int .i64 (wW v0 s).2):=by
 generalize g:wW v0 s=R;unfold wW at g;have r:=uC s;generalize aY s=P at*;obtain ⟨v,e⟩:=P;dsimp only at g r;rcases o with _|d
 all_goals
  refine MTK.enter Tryz.func41 l7 l8 (by rfl) (by rfl) fun E C=> ?_
  show AK _ _ _ [.c eO] _ _;rw [eO];refine kW ?_;refine kQ [.v (.tup [(vA (v)),.int .i64 e])] ?_;refine kW ?_;refine kC (fun hb=> ?_) fun hb=> ?_
  ·have i:e≠0:=by simpa using hb
   rw [if_pos i] at g;subst g;refine kW ?_;exact aR ⟨⟨_,rfl,rfl⟩,kBx⟩
  have i: ¬e≠0:=by simpa using hb
  rw [if_neg i] at g;clear hb;refine kW ?_;refine kC (fun hb=> ?_) fun hb=> ?_
  ·have j:v.kind=0:=by simpa using hb
   rw [if_pos j] at g;subst g;refine kW ?_;exact aR ⟨⟨_,rfl,rfl⟩,kBx⟩
  have j: ¬v.kind=0:=by simpa using hb
  rw [if_neg j] at g;clear hb;refine kW ?_;refine kC (fun hb=> ?_) fun hb=> ?_
  ·have p:v.kind≠5:=by simpa using hb
   rw [if_pos p] at g;subst g;refine kW ?_;exact aR ⟨⟨_,rfl,rfl⟩,kBx⟩
  have p: ¬v.kind≠5:=by simpa using hb
  rw [if_neg p] at g;subst g;clear hb;refine kW ?_;exact aR ⟨⟨_,rfl,rfl⟩,kBx⟩
theorem DD (ts:TS) (n t:ByteArray) (l:List ND):rowsT2 (ts++ [((n,t),l)])=rowsT2 ts++ [[.str n,.str t]]:=by
 show aS ((ts++ [((n,t),l)]).map Prod.fst)=_;rw [List.map_append];exact Fc _ _
theorem DE (ts:TS) (f:Fl) (l:List ND):pb (ts++ [(f,l)])=pb ts++ [[.lst .any 16 (a7 l)]]:=by
 unfold pb;rw [List.map_append];rfl
theorem Fu (ts:TS):(rowsT2 ts).length=ts.length:=by rw [bn,List.length_map]
theorem Fv (ts:TS):(pb ts).length=ts.length:=List.length_map _
theorem Il (o:Option DF) (l:List ND) (hl:l.length≤1000000) (hn: ∀n∈l,n.name.size≤1000000) (i:SzD (o.getD [])) (g:((o.getD []).map Prod.fst).Nodup):MS Tryz.prog 26 (mS 2900001 o) [mC 2900001 o,.lst .any 16 (a7 l)] (clS (o.getD []) l) (clR (o.getD []) l):=by
 cases o with
 |some d=>exact Ih l hl hn d i g
 |none=>
  show MS _ _ [] [.raw (.map none),_] (clS [] l) (clR [] l);unfold clS clR;cases h:gn [] l with
  |none=>exact DA l hl hn h
  |some d' =>exact Dz l hl hn d' h
abbrev cI (_:DF):List Nat:= [2900001]
def mX:Option DF→AV
 |none=> .raw (.map none)
 |some _=> .top
def Ol:Option (List ND×DF)→List Nat
 |some _=>qKs
 |none=> []
def Om (nm ver:ByteArray) (v:V) (ts:TS) (o:Option DF) (f:Fl):Option (List ND×DF)→List (Nat×List AV)
 |some x=>No 1900101 nm ver v (ts++ [(f,x.1)]) x.2
 |none=> [(2000000,[.str nm,.str ver,.int .i64 v.kind,.bool v.b,.int .i64 v.n,.str v.s,.lst .any 6 (aL v.l),.lst .any 7 (am v.m),.lst .any 2 (rowsT2 ts),.lst .any 1 (pb ts),mX o])]
theorem kBt {p:Prop} (h:p:=by exact ⟨⟨_,rfl,.refl _,.refl _,.refl _,.refl _,.refl _,.refl _,.refl _,.refl _,.refl _,.refl _,by first|exact .top _ rfl|exact .refl _,trivial⟩,trivial⟩):p:=h
set_option maxHeartbeats 4000000 in
theorem N1 (nm ver:ByteArray) (v:V) (ts:TS) (U:ts.length<1000000) (o:Option DF) (hd:SzD (o.getD [])) (r:((o.getD []).map Prod.fst).Nodup) (f:Fl) (R:f.2.size≤140737488355328):MTK Tryz.prog 43 qKs (chZ 2900001 nm ver v ts o) [.np 2000000 0,.agg [.str f.1,.str f.2]] (Ol (pa (o.getD []) f.2).1) (Om nm ver v ts o f (pa (o.getD []) f.2).1) (.int .i64 (pa (o.getD []) f.2).2):=by
 obtain ⟨n,t⟩:=f;dsimp only at R⊢;have hP:AC Tryz.prog 25 [.str t] (.tup [.lst .any 16 (a7 (cy t.data.toList).1),.int .i64 (cy t.data.toList).2]):=L5 t.data.toList R;have i:=qj t.data.toList;have C:=Fq t.data.toList;generalize g:pa (o.getD []) t=q;unfold pa at g;generalize cy t.data.toList=p at*;obtain ⟨l,e⟩:=p;dsimp only at hP i C g;have j:=Il o l (by omega) (fun n hn=>gB7 (i n hn) (by omega)) hd r;have I:=DD ts n t l;have J:=DE ts (n,t) l;have hlT:=Fu ts;have hlN:=Fv ts;generalize T:gn (o.getD []) l=co at g;unfold clS clR at j;rw [T] at j;clear T;rcases o with _|d
 all_goals
  refine MTK.enter Tryz.func43 ib ic (by rfl) (by rfl) fun E hE=> ?_
  show AK _ _ _ [.c cM] _ _;rw [cM];refine kW ?_;refine kQ [.v (.tup [.lst .any 16 (a7 l),.int .i64 e])] ?_;refine kW ?_;refine kC (fun hb=> ?_) fun hb=> ?_
  ·have P:e≠0:=by simpa using hb
   rw [if_pos P] at g;subst g;refine kW ?_;refine AK.weak (wN (row:=fun _=>0) (L:= [(4,.int .i64 e)]) (BL:= [(2000000,chU nm ver v ts (mX (by first|exact some d|exact none)),false)]) ⟨kI,trivial⟩ kBt rfl rfl ⟨rfl,trivial⟩) ?_;exact aR ⟨⟨_,rfl,rfl⟩,kBx⟩
  have P: ¬e≠0:=by simpa using hb
  rw [if_neg P] at g;clear hb;rcases co with _|d'
  ·subst g
   dsimp only at j;refine kW ?_;refine kQ [.s (by first|exact cI d|exact []) [] (.tup [.raw (.map none),.int .i64 13])] ?_;refine kW ?_;refine kCt ?_;refine kW ?_;refine AK.weak (wN (row:=fun _=>0) (L:= [(4,.int .i64 13)]) (BL:= [(2000000,chU nm ver v ts (mX (by first|exact some d|exact none)),false)]) ⟨kI,trivial⟩ kBt rfl rfl ⟨rfl,trivial⟩) ?_;exact aR ⟨⟨_,rfl,rfl⟩,kBx⟩
  ·subst g
   dsimp only at j;refine kW ?_;refine kQ [.s (by first|exact cI d|exact []) [(1900101,[mcA (bc d')])] (.tup [.np 1900101 0,.int .i64 0])] ?_;refine kW ?_;refine kCf ?_;refine kW ?_;refine kQ [] ?_;refine kW ?_;refine aR ⟨⟨_,rfl,rfl⟩,?_⟩;show vz _ _ (No 1900101 nm ver v (ts++ [((n,t),l)]) d');unfold No chU;rw [I,J];exact kBx
end
section
set_option maxRecDepth 100000
set_option maxHeartbeats 20000000
def GB:List Nat:= [2000040,2000041,2000043,2000010,2000026,2000083,2000011]
noncomputable def me:ACode:=bK Tryz.prog GB Tryz.f10
noncomputable def DG:AFn:=⟨1,65,me,[.tmp 2,.tmp 3,.tmp 4]⟩
theorem xn:aq Tryz.prog GB Tryz.f10=some DG:=kk
theorem xp:ab Tryz.prog 10=true:=kk
end
end Go.Proofs.YtbgflifmanjpjaaGreatDoor
