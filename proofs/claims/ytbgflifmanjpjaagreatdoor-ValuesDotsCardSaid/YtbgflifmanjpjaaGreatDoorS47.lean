/- Part 47. -/
import Derived.Test.YtbgflifmanjpjaaGreatDoorS46
import Derived.StringKeys
set_option linter.unusedSimpArgs false
set_option linter.unusedVariables false
namespace Go.Proofs.YtbgflifmanjpjaaGreatDoor
section
open Go.RowKit Go.Maps Go.MapKept Go.ChangeMaps
abbrev DF:=List (ByteArray×List ND)
def aRz (d:DF):List MRow:=d.map fun p=>([.str p.1],[.lst .any 16 (aM p.2)])
def z6 (d:DF) (n:ByteArray):Bool:=d.any fun p=>decide (p.1=n)
theorem jB {d:DF} {n:ByteArray}:z6 d n=true↔n∈d.map Prod.fst:=by
 unfold z6;rw [List.any_eq_true,List.mem_map];exact ⟨fun ⟨p,g,i⟩=>⟨p,g,gB3 i⟩,fun ⟨p,g,i⟩=>⟨p,g,decide_eq_true i⟩⟩
def dH:DF→List ND→Option DF
 |d,[]=>some d
 |d,n::l=>if n.kind≠6 then dH d l else if z6 d n.name=true then none else dH (d++ [(n.name,n.body)]) l
def SzD (d:DF):Prop:= ∀p∈d,p.1.size≤1000000
theorem rd:Keyed Tryz.prog 9:=string_keyed Tryz.underlying9
theorem tw {s:ByteArray} (h:s.size≤1000000):keyOf Tryz.prog 9 (.string s)=some (.string s.data.toList):=Go.WideMaps.keyOf_string_mk Tryz.underlying9 (by unfold maxLen;omega)
theorem oe {d:DF} (h:SzD d):nX Tryz.prog 9 (aRz d):=fun r hr=>by
 obtain ⟨x,g,rfl⟩:=List.mem_map.1 hr;exact ⟨_,_,rfl,tw (h x g)⟩
theorem F2 {d:DF} {n:ByteArray} (b:List ND) (h:n∉d.map Prod.fst):HG (aRz d) [.str n] [.lst .any 16 (aM b)]=aRz (d++ [(n,b)]):=by
 unfold HG;rw [if_neg]
 ·unfold aRz
  rw [List.map_append];rfl
 ·rintro ⟨r,hr,g⟩
  obtain ⟨x,i,rfl⟩:=List.mem_map.1 hr;simp at g;exact h (g▸List.mem_map.2 ⟨x,i,rfl⟩)
theorem DU:MOp Tryz.prog (.new 43) [] [] [(1900101,[mcA (aRz [])])] (.np 1900101 0):=Jz rfl
theorem Io {d:DF} (hd:SzD d) {n:ByteArray} (hn:n.size≤1000000) (b:List ND) (h:n∉d.map Prod.fst):MOp Tryz.prog (.set 43) [(1900101,[mcA (aRz d)])] [.np 1900101 0,.str n,.lst .any 16 (aM b)] [(1900101,[mcA (aRz (d++ [(n,b)]))])] (.bool true):=by
 rw [←F2 b h]
 exact Jy (κ:= [.str n]) (vc:= [.lst .any 16 (aM b)]) rfl Tryz.underlying43 rd (oe hd) rfl (tw hn) fun c g=>by
  rw [gB1 g];rfl
theorem Ku (w:World):(zeroValue 56).run Tryz.prog w= .ok (.slice none 0 0) w:=kk
theorem LL (σ:Sg) (esz:Nat):Rel1 σ (.slice none 0 0) (.lst .any esz []):= .lst .any esz [] none 0 0 0 0 (fun _ _=>undef) rfl (gA4 _) (fun h=>by omega) (fun i c h=>by simp at h) (fun i j h=>by omega) (fun i j c a h=>by simp at h) trivial
theorem Lf {d:DF} (hd:SzD d) {n:ByteArray} (hn:n.size≤1000000): ∃X,MOp Tryz.prog (.get 43 true) [(1900101,[mcA (aRz d)])] [.np 1900101 0,.str n] [(1900101,[mcA (aRz d)])] (.tup [.lst .any 16 X,.bool (z6 d n)]):=by
 by_cases h:n∈d.map Prod.fst
 ·obtain ⟨p,j,rfl⟩:=List.mem_map.1 h
  refine ⟨aM p.2,?_⟩;rw [jB.2 h];exact EC (κ:= [.str p.1]) (z:= [.lst .any 16 []]) (o:=some [.lst .any 16 (aM p.2)]) true (id:=1900101) rfl Tryz.underlying43 rd (oe hd) rfl (tw hn) Ku (fun σ=>LL σ 16) (List.mem_map.2 ⟨p,j,rfl⟩) (by intro c g;rw [gB1 g];rfl)
 ·refine ⟨[],?_⟩
  rw [Bool.eq_false_iff.2 fun k=>h (jB.1 k)]
  exact EC (κ:= [.str n]) (z:= [.lst .any 16 []]) (o:=none) true (id:=1900101) rfl Tryz.underlying43 rd (oe hd) rfl (tw hn) Ku (fun σ=>LL σ 16) (by
   intro r hr i;obtain ⟨x,C,rfl⟩:=List.mem_map.1 hr;simp at i;exact h (i▸List.mem_map.2 ⟨x,C,rfl⟩)) (by intro c g;rw [gB1 g];rfl)
def B7:ACode→ACode
 | .seq _ (.seq _ (.seq _ r))=>r
 |c=>c
theorem Lg {E:Env} {Q:Exit→Fr→St→Prop} (l:List ND) (hl:l.length≤1000000) (hn: ∀n∈l,n.name.size≤1000000) (d:DF) (hd:SzD d)
  (U: ∀d',dH d l=some d' →Q .ret (au [(4,.np 1900101 0),(5,.int .i64 0)]) ⟨ag [(1900101,[mcA (aRz d')],false)],fun _=>0⟩)
  (hno:dH d l=none→Q .ret (au [(4,.raw (.map none)),(5,.int .i64 13)]) ⟨ag [],fun _=>0⟩):
  AK Tryz.prog E Q [.c (B7 bz)] (au [(1,.lst .any 16 (aM l)),(6,.np 1900101 0)]) ⟨ag [(1900101,[mcA (aRz d)],false)],fun _=>0⟩:=by
 rw [bz];simp only [B7];refine kW ?_;refine aJ (fun x:Nat×DF=>(au [(6,.np 1900101 0),(24,.lst .any 16 (aM l)),(25,.int .i64 l.length),(26,.int .i64 x.1)],⟨ag [(1900101,[mcA (aRz x.2)],false)],fun _=>0⟩)) (fun x=>x.1≤l.length∧dH x.2 (l.drop x.1)=dH d l∧SzD x.2) (fun x=>l.length-x.1) (0,d) ⟨gB8 _,rfl,hd⟩ (wN ⟨kI,kI,⟨_,rfl,.of_eq (congrArg (AV.int _) (congrArg Int.ofNat (fW l)))⟩,kI,trivial⟩ ⟨kJ,trivial⟩ rfl rfl ⟨rfl,trivial⟩) fun ⟨k,i⟩ ⟨hk,g,j⟩=> ?_
 dsimp only at hk g j;refine kW ?_;refine kC (fun hb=> ?_) fun hb=> ?_
 ·have J:k<l.length:=by simpa using hb
  clear hb;obtain ⟨n,hg⟩: ∃n,l[k]? =some n:=⟨_,gA1 J⟩
  have r:=hn n (gA2 hg)
  have hdr:l.drop k=n::l.drop (k+1):=by
   rw [List.drop_eq_getElem_cons J];rw [gA1 J] at hg;cases hg;rfl
  rw [hdr,dH] at g;have C:=H1 hg;obtain ⟨P,nt,nx,ny,I,R,nl⟩:=n;rw [ND.row_eq] at C;have r:I.size≤1000000:=r;have g:(if P≠6 then dH i (l.drop (k+1)) else if z6 i I=true then none else dH (i++ [(I,R)]) (l.drop (k+1)))=dH d l:=g;refine kW ?_;refine kP [.c (ndV P nt nx ny I R nl)] ?_ ?_
  ·((repeat' apply aI)<;>first|exact kD|(intro hgd;refine ⟨?_,kG⟩;(repeat' apply aI)<;>first|exact kD|skip)|skip)
   all_goals first|exact C|(rw [fW];omega)|skip
  refine kW ?_;refine kC (fun hb=> ?_) fun hb=> ?_
  ·have h6:P≠6:=by
    intro h;subst h;cases hb
   clear hb;rw [if_pos h6] at g;refine AK.exit rfl ?_;refine kW ?_;exact AK.lp ⟨(k+1,i),⟨by dsimp only;omega,g,j⟩,wN ⟨kI,kI,kI,kU,trivial⟩ ⟨kJ,trivial⟩ rfl rfl ⟨rfl,trivial⟩,by dsimp only;omega⟩
  have h6:P=6:=by
   have:(P:Int)=6:=by simpa using hb
   omega
  clear hb;rw [if_neg (fun h=>h h6)] at g;obtain ⟨X,hX⟩:=Lf j r;refine kW ?_;refine kQ [.s [1900101] [(1900101,[mcA (aRz i)])] (.tup [.lst .any 16 X,.bool (z6 i I)])] ?_;refine kW ?_;refine kC (fun hb=> ?_) fun hb=> ?_
  ·rw [if_pos hb] at g
   clear hb;refine kW ?_;refine AK.weak (wN (row:=fun _=>0) (L:= [(4,.raw (.map none)),(5,.int .i64 13)]) (BL:= []) ⟨kI,kI,trivial⟩ trivial rfl rfl trivial) ?_;exact aR (hno g.symm)
  ·have T: ¬z6 i I=true:=by rw [hb];decide
   clear hb;rw [if_neg T] at g;have hset:=Io j r R (fun h=>T (jB.2 h));refine kW ?_;refine kQ [.s [1900101] [(1900101,[mcA (aRz (i++ [(I,R)]))])] (.bool true)] ?_;refine kW ?_;exact AK.lp ⟨(k+1,i++ [(I,R)]),⟨by dsimp only;omega,g,fun p hp=>(gB5 hp).elim (j p) fun h=>by rw [gB1 h];exact r⟩,wN ⟨kI,kI,kI,kU,trivial⟩ ⟨kJ,trivial⟩ rfl rfl ⟨rfl,trivial⟩,by dsimp only;omega⟩
 ·have hge:k=l.length:=by
   have: ¬k<l.length:=by simpa using hb
   omega
  clear hb;rw [gB6 (by omega)] at g;refine AK.exit rfl ?_;refine kW ?_;refine AK.weak (wN (row:=fun _=>0) (L:= [(4,.np 1900101 0),(5,.int .i64 0)]) (BL:= [(1900101,[mcA (aRz i)],false)]) ⟨kI,kI,trivial⟩ ⟨kJ,trivial⟩ rfl rfl ⟨rfl,trivial⟩) ?_;exact aR (U i g.symm)
theorem B8 (l:List ND) (hl:l.length≤1000000) (hn: ∀n∈l,n.name.size≤1000000) (d' :DF) (h:dH [] l=some d'):MS Tryz.prog 26 [] [.raw (.map none),.lst .any 16 (aM l)] [(1900101,[mcA (aRz d')])] (.tup [.np 1900101 0,.int .i64 0]):=by
 refine MS.enter Tryz.func26 eA eB (by rfl) (by rfl) fun E I=> ?_
 show AK _ _ _ [.c bz] _ _
 have g:=Lg (E:=E) (Q:=RQS ez.res [(1900101,[mcA (aRz d')])] (.tup [.np 1900101 0,.int .i64 0])) l hl hn [] (fun p C=>by cases C) (fun J i=>by
  rw [h] at i;cases i;exact ⟨⟨_,rfl,rfl⟩,⟨_,rfl,rfl⟩,trivial⟩) (fun i=>by rw [h] at i;cases i)
 rw [bz] at g⊢;simp only [B7] at g;have j:=DU;refine kW ?_;refine kQ [.s [] [(1900101,[mcA (aRz [])])] (.np 1900101 0)] ?_;refine kS ?_;refine AK.mrange0 [] (fun r=>(au [(1,.lst .any 16 (aM l)),(6,.np 1900101 0),(15,itA r)],⟨ag [(1900101,[mcA (aRz [])],false)],fun _=>0⟩)) ?_ ?_ ?_ ?_
 ·trivial
 ·exact fun r=>wN ⟨kI,kI,kI,trivial⟩ ⟨kJ,trivial⟩ rfl rfl ⟨rfl,trivial⟩
 ·exact fun r=>rfl
 ·refine fun r=>⟨[],_,_,_,_,rfl,trivial,?_⟩
  refine kS ?_;refine kCf ?_;refine AK.exitQ ⟨rfl,?_⟩;exact AK.weak (wN (row:=fun _=>0) (L:= [(1,.lst .any 16 (aM l)),(6,.np 1900101 0)]) (BL:= [(1900101,[mcA (aRz [])],false)]) ⟨kI,kI,trivial⟩ ⟨kJ,trivial⟩ rfl rfl ⟨rfl,trivial⟩) g
theorem B9 (l:List ND) (hl:l.length≤1000000) (hn: ∀n∈l,n.name.size≤1000000) (h:dH [] l=none):MS Tryz.prog 26 [] [.raw (.map none),.lst .any 16 (aM l)] [] (.tup [.raw (.map none),.int .i64 13]):=by
 refine MS.enter Tryz.func26 eA eB (by rfl) (by rfl) fun E I=> ?_
 show AK _ _ _ [.c bz] _ _;have g:=Lg (E:=E) (Q:=RQS ez.res [] (.tup [.raw (.map none),.int .i64 13])) l hl hn [] (fun p C=>by cases C) (fun J i=>by rw [h] at i;cases i) (fun _=>⟨⟨_,rfl,rfl⟩,trivial⟩);rw [bz] at g⊢;simp only [B7] at g;have j:=DU;refine kW ?_;refine kQ [.s [] [(1900101,[mcA (aRz [])])] (.np 1900101 0)] ?_;refine kS ?_;refine AK.mrange0 [] (fun r=>(au [(1,.lst .any 16 (aM l)),(6,.np 1900101 0),(15,itA r)],⟨ag [(1900101,[mcA (aRz [])],false)],fun _=>0⟩)) ?_ ?_ ?_ ?_
 ·trivial
 ·exact fun r=>wN ⟨kI,kI,kI,trivial⟩ ⟨kJ,trivial⟩ rfl rfl ⟨rfl,trivial⟩
 ·exact fun r=>rfl
 ·refine fun r=>⟨[],_,_,_,_,rfl,trivial,?_⟩
  refine kS ?_;refine kCf ?_;refine AK.exitQ ⟨rfl,?_⟩;exact AK.weak (wN (row:=fun _=>0) (L:= [(1,.lst .any 16 (aM l)),(6,.np 1900101 0)]) (BL:= [(1900101,[mcA (aRz [])],false)]) ⟨kI,kI,trivial⟩ ⟨kJ,trivial⟩ rfl rfl ⟨rfl,trivial⟩) g
theorem Ca {l:DF} {g i:List MRow} {row:MRow} (h:aRz l=g++row::i): ∃(a:DF) (e:ByteArray×List ND) (b:DF),l=a++e::b∧g=aRz a∧row=([.str e.1],[.lst .any 16 (aM e.2)])∧i=aRz b:=by
 unfold aRz at h;obtain ⟨a,b,rfl,j,p⟩:=List.map_eq_append_iff.1 h;obtain ⟨e,r,rfl,C,I⟩:=List.map_eq_cons_iff.1 p;exact ⟨a,e,r,rfl,j.symm,C.symm,I.symm⟩
theorem z7 (a b:DF):aRz a++aRz b=aRz (a++b):=by unfold aRz;rw [List.map_append]
def clS (g:DF) (l:List ND):List (Nat×List AV):=match dH g l with
 |some d' => [(1900101,[mcA (aRz d')])]
 |none=> []
def clR (g:DF) (l:List ND):AV:=match dH g l with
 |some _=> .tup [.np 1900101 0,.int .i64 0]
 |none=> .tup [.raw (.map none),.int .i64 13]
theorem yp (l:List ND) (hl:l.length≤1000000) (hn: ∀n∈l,n.name.size≤1000000) (d:DF) (hd:SzD d) (hnd:(d.map Prod.fst).Nodup):MSX Tryz.prog 26 [(2900001,[mcA (aRz d)])] [.np 2900001 0,.lst .any 16 (aM l)] (fun g:DF=>g.Perm d) (fun g=>clS g l) (fun g=>clR g l):=by
 refine MSX.enter Tryz.func26 eA eB (by rfl) (by rfl) fun E hE=> ?_
 show AK _ _ _ [.c bz] _ _;have j:=fun (g:DF) (I:g.Perm d)=>Lg (E:=E) (Q:=RQX ez.res (fun g:DF=>g.Perm d) (fun g=>clS g l) (fun g=>clR g l)) l hl hn g (fun p h=>hd p (I.mem_iff.1 h)) (fun d2 J=>⟨g,I,by show yO _ _ (clS g l) (clR g l) _ _ _;unfold clS clR;rw [J];exact ⟨⟨_,rfl,rfl⟩,⟨_,rfl,rfl⟩,trivial⟩⟩) (fun J=>⟨g,I,by show yO _ _ (clS g l) (clR g l) _ _ _;unfold clS clR;rw [J];exact ⟨⟨_,rfl,rfl⟩,trivial⟩⟩)
 rw [bz] at j⊢;simp only [B7] at j;have hnew:=DU;refine kW ?_;refine kQ [.s [] [(1900101,[mcA (aRz [])])] (.np 1900101 0)] ?_;refine kS ?_;refine AK.mrange 2900001 (aRz d) [(2900001,[mcA (aRz d)])] [] (fun r (i:DF×DF)=>(au [(1,.lst .any 16 (aM l)),(6,.np 1900101 0),(15,itA r)],⟨ag [(1900101,[mcA (aRz i.2)],false)],fun _=>0⟩)) (fun i=>(i.1++i.2).Perm d) (fun i=>aRz i.1) (d,[]) ?_ ?_ rfl ?_ ?_ ?_ ?_ ?_ ?_ ?_ ?_
 ·trivial
 ·simp
 ·intro x R
  rw [gB1 R];rfl
 ·intro x R
  rw [gB1 R];show 1000000≤2900001;omega
 ·intro x R c hc
  rw [gB1 R] at hc;rw [gB1 hc];rfl
 ·exact List.mem_singleton.2 rfl
 ·exact fun r=>wN ⟨kI,kI,kI,trivial⟩ ⟨kJ,trivial⟩ rfl rfl ⟨rfl,trivial⟩
 ·exact fun r i=>rfl
 ·intro E2 r ⟨left,done⟩ la row lb hE2 T hL U
  obtain ⟨a',⟨C,P⟩,b',rfl,rfl,rfl,rfl⟩:=Ca hL;have T:(a' ++(C,P)::b' ++done).Perm d:=T
  have I:((a' ++b')++(done++ [(C,P)])).Perm d:=by
   refine List.Perm.trans ?_ T;rw [List.append_assoc,List.append_assoc];refine List.Perm.append_left _ ?_;rw [List.cons_append,←List.append_assoc];exact List.perm_append_singleton _ _
  have hnz:C.size≤1000000:=hd (C,P) (I.mem_iff.1 (List.mem_append.2 (.inr (List.mem_append.2 (.inr (List.mem_singleton.2 rfl))))));have hdz:SzD done:=fun p h=>hd p (I.mem_iff.1 (List.mem_append.2 (.inr (List.mem_append.2 (.inl h)))))
  have hnot:C∉done.map Prod.fst:=by
   have h1:=(I.map Prod.fst).nodup_iff.2 hnd;rw [List.map_append] at h1;have J:=(List.nodup_append.1 h1).2.1;rw [List.map_append] at J;have h3:=(List.nodup_append.1 J).2.2;intro hm;exact h3 C hm C (by simp) rfl
  have hset:=Io hdz hnz P hnot;refine ⟨[],_,_,_,_,rfl,trivial,?_⟩;refine kS ?_;refine kCt ?_;refine kN ?_;refine kB ?_;refine kS ?_;refine AK.ent (rs:= []) U rfl rfl ?_ ?_
  ·(repeat' apply aI)<;>exact kD
  refine kP [.s [1900101] [(1900101,[mcA (aRz (done++ [(C,P)]))])] (.bool true)] ?_ ?_
  ·((repeat' apply aI)<;>first|exact kD|(intro hgd;refine ⟨?_,kG⟩;(repeat' apply aI)<;>first|exact kD|skip)|skip)
  refine kL ?_;refine AK.nil ?_;exact JK (a' ++b',done++ [(C,P)]) I (by rw [z7]) (wN ⟨kI,kI,kI,trivial⟩ ⟨kJ,trivial⟩ rfl rfl ⟨rfl,trivial⟩)
 ·intro E2 r ⟨left,done⟩ hE2 T hL
  have hl0:left= []:=List.map_eq_nil_iff.1 hL;subst hl0;refine ⟨[],_,_,_,_,rfl,trivial,?_⟩;refine kS ?_;refine kCf ?_;refine AK.exitMQ ?_;exact AK.weak (wN (row:=fun _=>0) (L:= [(1,.lst .any 16 (aM l)),(6,.np 1900101 0)]) (BL:= [(1900101,[mcA (aRz done)],false)]) ⟨kI,kI,trivial⟩ ⟨kJ,trivial⟩ rfl rfl ⟨rfl,trivial⟩) (j done T)
end
section
open Go.RowKit
theorem z8: ∀(l:List ND) (d d' :DF),(d.map Prod.fst).Nodup→dH d l=some d' →(d'.map Prod.fst).Nodup
 | [],d,d',hd,h=>by cases h;exact hd
 |n::l,d,d',hd,h=>by
  rw [dH] at h;split at h
  ·exact z8 l d d' hd h
  ·split at h
   ·cases h
   ·rename_i i
    refine z8 l _ d' ?_ h;rw [List.map_append];refine List.nodup_append.2 ⟨hd,by simp,fun a g b hb e=> ?_⟩;rw [List.map_singleton,List.mem_singleton] at hb;exact i (jB.2 (by rw [e,hb] at g;exact g))
theorem Aa: ∀(l:List ND) (d d' :DF),SzD d→(∀n∈l,n.name.size≤1000000)→dH d l=some d' →SzD d'
 | [],d,d',hd,_,h=>by cases h;exact hd
 |n::l,d,d',hd,hn,h=>by
  have hl: ∀n∈l,n.name.size≤1000000:=fun x i=>hn x (List.mem_cons_of_mem _ i)
  rw [dH] at h;split at h
  ·exact Aa l d d' hd hl h
  ·split at h
   ·cases h
   ·refine Aa l _ d' (fun p g=> ?_) hl h
    rcases gB5 g with g|g
    ·exact hd p g
    ·rw [gB1 g]
     exact hn n (List.mem_cons_self ..)
theorem F3 {d e:DF} (h:d.Perm e) (n:ByteArray):z6 d n=z6 e n:=by
 rw [Bool.eq_iff_iff,jB,jB];exact (h.map Prod.fst).mem_iff
theorem mr: ∀(l:List ND) (d e:DF),d.Perm e→(dH d l=none∧dH e l=none)∨ ∃d' g,dH d l=some d' ∧dH e l=some g∧d'.Perm g
 | [],d,e,h=> .inr ⟨d,e,rfl,rfl,h⟩
 |n::l,d,e,h=>by
  rw [dH,dH,F3 h];split
  ·exact mr l d e h
  ·split
   ·exact .inl ⟨rfl,rfl⟩
   ·exact mr l _ _ (h.append_right _)
theorem F4 (s:Bs):(mS s).1.length≤s.length:=by
 have hl:=cA s;unfold mS JI;cases g:tlw s with
 |nil=>exact gB8 _
 |cons c t=>
  rw [g,gA3] at hl;dsimp only;split
  ·exact gB8 _
  ·rename_i h
   split at h
   ·cases h
    have:=fO t;show (nmL t).length≤_;omega
   ·cases h
theorem rf (s:Bs):(iO s).1.length≤s.length:=by
 have hl:=F4 s;unfold iO;generalize mS s=q at*;obtain ⟨n,r,b⟩:=q;dsimp only at hl⊢;cases b
 ·exact hl
 ·dsimp only
  split<;>exact hl
theorem Cb (s:Bs):(fB s).2.1.length≤s.length:=by
 have hl:=vV s;have g:=rf s;unfold fB;generalize mS s=q at*;obtain ⟨key,rest,b⟩:=q;dsimp only at hl⊢;have i:=rf (rest.drop 1);rw [gA6] at i;generalize iO (rest.drop 1)=q1 at*;generalize iO s=j at*;obtain ⟨p,r,C⟩:=q1;obtain ⟨I,J,c2⟩:=j;dsimp only at i g⊢;split<;>split<;>first|exact gB8 _|(show p.length≤_;omega)|exact g
theorem DV (m:MK) (w s:Bs):(eK m w s).1.name.size≤s.length:=by
 unfold eK;split
 ·exact gB8 _
 ·split
  ·exact gB8 _
  ·split
   ·exact EK s
   ·show (toB (fB s).2.1).size≤_
    rw [ab];exact Cb s
theorem ga: ∀(n:Nat) (k:NM) (m:MK) (N:Nat),m.at_≤m.l.length→(∀t∈m.l,t.s.length≤N)→(match k with| .nodes out=> ∀nd∈out,nd.name.size≤N| .block _ s=>s.length≤N)→ ∀nd∈(ndF n k m).1,nd.name.size≤N
 |0,k,m,N,_,_,_,nd,h=>by cases h
 |n+1,.nodes out,m,N,P,h,j,nd,g=>by
  have j: ∀nd∈out,nd.name.size≤N:=j
  rw [ndF] at g;cases r:m.l[m.at_]? with
  |none=>
   rw [r] at g;exact j nd g
  |some t=>
   rw [r] at g;have ht:=h t (gA2 r);have p:=(gA0 r).1;dsimp only at g;have i:=fun s=>(⟨m.l,m.at_+1,m.deep,m.bad⟩:MK).pipe_at s ⟨MK.pipe_l _ s,p⟩
   have snoc: ∀x:ND,x.name.size≤N→ ∀y∈out++ [x],y.name.size≤N:=fun x r y hy=>(gB5 hy).elim (j y) fun h=>by rw [gB1 h];exact r
   have C:=rf t.s;split at g
   ·exact ga n (.nodes (out++ [.mk 0 (toB t.s) EX.null ⟨#[]⟩ ⟨#[]⟩ [] []])) ⟨m.l,m.at_+1,m.deep,m.bad⟩ N p h (snoc _ (gB8 _)) nd g
   ·split at g
    ·exact j nd g
    ·split at g
     ·have I:=eu n (.block (nmL t.s) (b7 t.s)) ⟨m.l,m.at_+1,m.deep,m.bad⟩ p
      have hb:=ga n (.block (nmL t.s) (b7 t.s)) ⟨m.l,m.at_+1,m.deep,m.bad⟩ N p h (by show (b7 t.s).length≤N;unfold b7;rw [gA6];omega);exact ga n _ _ N (by rw [I.1];exact I.2.2.1) (by rw [I.1];exact h) (fun y hy=>(gB5 hy).elim (j y) (hb y)) nd g
     ·split at g
      ·rename_i name rest R
       rw [R] at C;exact ga n _ _ N (by rw [(i _).1];exact (i _).2.2) (by rw [(i _).1];exact h) (snoc _ (by show (toB name).size≤N;rw [ab];exact gB7 C ht)) nd g
      ·exact ga n _ _ N (by rw [(i _).1];exact (i _).2.2) (by rw [(i _).1];exact h) (snoc _ (gB8 _)) nd g
 |n+1,.block w s,m,N,P,h,j,nd,g=>by
  have j:s.length≤N:=j;have J:=DV ⟨m.l,m.at_,IntKind.i64.wrap (m.deep+1),m.bad⟩ w s;rw [ndF] at g;dsimp only at g;split at g
  ·rw [gB1 g]
   exact gB8 _
  ·split at g
   ·rw [gB1 g]
    exact gB7 J j
   ·split at g<;>(rw [gB1 g];exact gB7 J j)
theorem eC (s:Bs): ∀nd∈(bU s).1,nd.name.size≤65536:=by
 have g:=od s;unfold bU;generalize cN s=q at g;obtain ⟨l,e⟩:=q;dsimp only at g⊢;intro nd h;split at h
 ·cases h
 ·have hn:=ga (3*l.length+3) (.nodes []) ⟨l,0,0,0⟩ 65536 (gB8 _) g.2 (fun nd h=>by cases h)
  generalize ndF (3*l.length+3) (.nodes []) ⟨l,0,0,0⟩=r at hn h;obtain ⟨out,stop,rest,m⟩:=r;dsimp only at hn h;split at h
  ·cases h
  ·split at h
   ·cases h
   ·exact hn nd h
theorem ko (s:Bs):(bU s).1.length≤65537:=by
 have g:=od s;unfold bU;generalize cN s=q at g;obtain ⟨l,e⟩:=q;dsimp only at g⊢;split
 ·exact gB8 _
 ·have hn:=eu (3*l.length+3) (.nodes []) ⟨l,0,0,0⟩ (gB8 _)
  generalize ndF (3*l.length+3) (.nodes []) ⟨l,0,0,0⟩=r at hn;obtain ⟨out,stop,rest,m⟩:=r;obtain ⟨_,_,i,j,_⟩:=hn;have p:out.length+0≤0+m.at_:=(j _ rfl).1;have i:m.at_≤l.length:=i;dsimp only;split
  ·exact gB8 _
  ·split
   ·exact gB8 _
   ·show out.length≤_
    have:=g.1;omega
def abN:ByteArray:=⟨#[67,104,97,114,116,46,121,97,109,108]⟩
def vaN:ByteArray:=⟨#[118,97,108,117,101,115,46,121,97,109,108]⟩
def teN:ByteArray:=⟨#[116,101,109,112,108,97,116,101,115,47]⟩
structure CS where
 nm:ByteArray
 ver:ByteArray
 v:V
 ts:List (Fl×List ND)
 d:DF
def fj (d:DF) (s:ByteArray):Option (List ND×DF)×Int:=if (bU s.data.toList).2≠0 then (none,(bU s.data.toList).2) else match dH d (bU s.data.toList).1 with
 |none=>(none,13)
 |some d' =>(some ((bU s.data.toList).1,d'),0)
def CS.add (c:CS) (f:Fl) (x:List ND×DF):CS:=⟨c.nm,c.ver,c.v,c.ts++ [(f,x.1)],x.2⟩
def CS.step (c:CS) (f:Fl):CS×Int:=if f.1=abN then (⟨(bT c.nm c.ver f.2).1,(bT c.nm c.ver f.2).2.1,c.v,c.ts,c.d⟩,(bT c.nm c.ver f.2).2.2)
 else if f.1=vaN then (⟨c.nm,c.ver,(ik c.v f.2).1,c.ts,c.d⟩,(ik c.v f.2).2)
 else if dQ f.1 teN=true then match fj c.d f.2 with
  |(some x,_)=>(c.add f x,0)
  |(none,e)=>(c,e)
 else (c,0)
def CS.all:CS→List Fl→CS×ByteArray×Int
 |c,[]=>(c,⟨#[]⟩,0)
 |c,f::l=>if (c.step f).2≠0 then (c,f.1,(c.step f).2) else (c.step f).1.all l
def cs0:CS:=⟨⟨#[]⟩,⟨#[]⟩,br [],[],[]⟩
def dY (l:List Fl):CS×ByteArray×Int:=if (bj l).2.2≠0 then (cs0,(bj l).2) else if (cs0.all (bj l).1).2.2≠0 then cs0.all (bj l).1 else if (cs0.all (bj l).1).1.nm=⟨#[]⟩ then (cs0,abN,3) else cs0.all (bj l).1
theorem rg {d:DF} {s:ByteArray} {x:List ND×DF} (h:(fj d s).1=some x):(bU s.data.toList).2=0∧x.1=(bU s.data.toList).1∧dH d (bU s.data.toList).1=some x.2∧(fj d s).2=0:=by
 unfold fj at h⊢;split
 ·rename_i g;rw [if_pos g] at h;cases h
 ·rename_i g
  rw [if_neg g] at h;have g:(bU s.data.toList).2=0:=by omega
  cases i:dH d (bU s.data.toList).1 with
  |none=>rw [i] at h;cases h
  |some d' =>rw [i] at h;cases h;exact ⟨g,rfl,rfl,rfl⟩
def Cc (i:Nat):Nat:=if i=2000000 then 23 else if i=23 then 2000000 else i
theorem vY (i j:Nat) (h:Cc i=Cc j):i=j:=by
 unfold Cc at h
 repeat' split at h
 all_goals omega
theorem Ab (i:Nat):aW (Cc i)=aW i:=by
 unfold Cc
 repeat' split
 all_goals first|(subst_vars;rfl)|rfl
structure XSpec where
 ι:Type
 I:ι→Prop
 S' :ι→List (Nat×List AV)
 r:ι→AV
 ids:List Nat
def callX (P:Program) (sp:XSpec) (d:Option Nat) (f:FuncId) (xs:List Opd) (fr:Fr) (st:St) (T:Fr→St→Prop):Prop:=
 match evs fr xs with
 |some g=>match eZ g,iT st.box sp.ids with
  |some j,some S=>MSX P f S j sp.I sp.S' sp.r∧(∀i,sp.I i→(okS sp.ids (sp.S' i) (sp.r i)&&aX st.box (ap sp.ids (sp.S' i)))=true)∧
   ∀i,sp.I i→T (match d with|some d=>az (dN (ap sp.ids (sp.S' i)) fr) d (sp.r i)|none=>dN (ap sp.ids (sp.S' i)) fr) ⟨ig (gc (ap sp.ids (sp.S' i)) st.box) sp.ids (sp.S' i),st.row⟩
  |_,_=>False
 |none=>False
def rX (P:Program) (sp:XSpec) (x:GI) (rs:Option RS) (fr:Fr) (st:St) (T:Fr→St→Prop):Prop:=
 match aS P x rs fr st,x.i.dst,sp.ids with
 |some (f,s,p),some d,[id]=>p∧1000000≤id∧id<2000000∧aW id=false∧s.box id=none∧match f d with
  |some (.frs k esz rows)=>d=k∧ ∀cap m,rows.length≤cap→(rows.flatten++List.replicate m AV.top).length=cap*esz→T (pR k id cap f) (CO k id cap (rows.flatten++List.replicate m AV.top) s)
  |_=>False
 |_,_,_=>False
def iD (P:Program) (X:Option XSpec) (x:GI) (rs:Option RS) (fr:Fr) (st:St) (T:Fr→St→Prop):Prop:=
 match X with
 |none=>match aS P x rs fr st with
  |none=>False
  |some (f,s,p)=>p∧T f s
 |some sp=>match x with
  |⟨none,.calls d (.k (.fn f [])) xs⟩=>callX P sp d f xs fr st T
  |⟨none,.appr d e b y z⟩=>rX P sp ⟨none,.appr d e b y z⟩ rs fr st T
  |_=>False
def Ac (P:Program) (g:Array Oper) (S:List (GI×Option RS)) (X:Nat→Option XSpec) (R:Fr→St→Prop):Nat→Array Bool→Fr→St→Prop
 |0,listed,fr,st=>Region.ready .any g listed= []∧R fr st
 |n+1,listed,fr,st=>(Region.ready .any g listed= []→R fr st)∧ ∀i∈Region.ready .any g listed,∃x rs,S[i]? =some (x,rs)∧iD P (X i) x rs fr st fun f s=>Ac P g S X R n (listed.setIfInBounds i true) f s
theorem rY {P:Program} {sp:XSpec} {x:GI} {rs:Option RS} {fr:Fr} {st:St} {T:Fr→St→Prop} (h:iD P (some sp) x rs fr st T):(∃d f xs,x=⟨none,.calls d (.k (.fn f [])) xs⟩∧callX P sp d f xs fr st T)∨((∃d e b y z,x=⟨none,.appr d e b y z⟩)∧rX P sp x rs fr st T):=by
 unfold iD at h;simp only at h;split at h
 ·exact .inl ⟨_,_,_,rfl,h⟩
 ·exact .inr ⟨⟨_,_,_,_,_,rfl⟩,h⟩
 ·exact h.elim
theorem eS {P:Program} {x:GI} {rs:Option RS} {fr:Fr} {st:St} {T:Fr→St→Prop} (h:iD P none x rs fr st T): ∃f s p,aS P x rs fr st=some (f,s,p)∧p∧T f s:=by
 unfold iD at h;simp only at h;split at h
 ·exact h.elim
 ·exact ⟨_,_,_,by assumption,h.1,h.2⟩
theorem eD {P:Program} {x:GI} {rs:Option RS} {fr:Fr} {st:St} {T:Fr→St→Prop} {f:Fr} {s:St} {p:Prop} (g:aS P x rs fr st=some (f,s,p)) (i:p) (j:T f s):iD P none x rs fr st T:=by
 unfold iD;simp only;rw [g];exact ⟨i,j⟩
theorem DW {P:Program} {g:Array Oper} {S:List (GI×Option RS)} {X:Nat→Option XSpec} {R:Fr→St→Prop} {i:Nat} {T:GI} {ri:Option RS} (hi:S[i]? =some (T,ri)) (U:X i=none):
  ∀(fuel:Nat) (listed:Array Bool) (fr f1:Fr) (st s1:St) (p:Prop),ClosedL g listed→(∀j xj rj oj,S[j]? =some (xj,rj)→g[j]? =some oj→j≠i→listed.getD j true=false→nD g g.size j i=false→X j=none∧ku T xj=true)→
   i∈Region.ready .any g listed→aS P T ri fr st=some (f1,s1,p)→p→Ac P g S X R fuel (listed.setIfInBounds i true) f1 s1→Ac P g S X R (fuel+1) listed fr st:=by
 intro fuel
 induction fuel with
 |zero=>
  intro listed fr f1 st s1 p _ _ hr hs hp H;refine ⟨fun h=>(by rw [h] at hr;cases hr),fun j hj=> ?_⟩;by_cases r:j=i
  ·subst r
   refine ⟨T,ri,hi,?_⟩;rw [U];exact eD hs hp H
  ·have:=ready_mono hj r
   rw [H.1] at this;cases this
 |succ fuel ih=>
  intro listed fr f1 st s1 p hcl C hr hs hp H;refine ⟨fun h=>(by rw [h] at hr;cases hr),fun j hj=> ?_⟩;by_cases r:j=i
  ·subst r
   refine ⟨T,ri,hi,?_⟩;rw [U];exact eD hs hp H
  ·obtain ⟨xj,rj,hSj,hst⟩:=H.2 j (ready_mono hj r)
   obtain ⟨I,oj,hoj,hall⟩:=mem_ready.1 hj;have hnot:=gg hcl (mem_ready.1 hr).1 g.size j oj hoj hall;obtain ⟨hX0,hind⟩:=C j xj rj oj hSj hoj r I hnot;cases J:X j with
   |some sp=>rw [hX0] at J;cases J
   |none=>
    rw [J] at hst;obtain ⟨f2,s2,q,hsj,hq,h3⟩:=eS hst;obtain ⟨f1',s1',k1,k2⟩:=yM hind hs hsj;refine ⟨xj,rj,hSj,?_⟩;refine eD k1 hq (ih (listed.setIfInBounds j true) f1' f2 s1' s2 p (hcl.set hj) (fun k xk rk ok hSk hok hki hun hno=> ?_) (ready_mono hr (Ne.symm r)) k2 hp ?_)
    ·refine C k xk rk ok hSk hok hki ?_ hno
     by_cases hjk:j=k
     ·subst hjk;exact I
     ·rw [getD_set_ne true hjk] at hun;exact hun
    ·rw [Array.setIfInBounds_comm _ _ r]
     exact h3
theorem mv {P:Program} {X:Option XSpec} {x:GI} {rs:Option RS} {fr:Fr} {st:St} {T I:Fr→St→Prop} (R: ∀f s,T f s→I f s) (h:iD P X x rs fr st T):iD P X x rs fr st I:=by
 cases X with
 |none=>
  obtain ⟨f,s,p,U,h2,h3⟩:=eS h;exact eD U h2 (R _ _ h3)
 |some sp=>
  rcases rY h with ⟨d,f,xs,e,g⟩|⟨⟨d,e,b,y,z,e'⟩,g⟩
  ·clear h
   subst e;have h:=g;clear g;show callX P sp d f xs fr st I;unfold callX at h⊢;cases j:evs fr xs with
   |none=>rw [j] at h;exact h.elim
   |some av=>
    rw [j] at h;simp only at h⊢;cases r:eZ av with
    |none=>rw [r] at h;exact h.elim
    |some bs=>
     rw [r] at h;cases C:iT st.box sp.ids with
     |none=>rw [C] at h;exact h.elim
     |some S0=>
      rw [C] at h;exact ⟨h.1,h.2.1,fun i hi=>R _ _ (h.2.2 i hi)⟩
  ·clear h
   subst e';show rX P sp _ rs fr st I;unfold rX at g⊢;split at g
   ·obtain ⟨k1,k2,k3,k4,k5,J⟩:=g
    refine ⟨k1,k2,k3,k4,k5,?_⟩;split at J
    ·exact ⟨J.1,fun cap m U h2=>R _ _ (J.2 cap m U h2)⟩
    ·exact J.elim
   ·exact g.elim
theorem eX {P:Program} {mu:List Nat} {E:Env} {g:Array Oper} {gl:List GI} {S:List (GI×Option RS)} {X:Nat→Option XSpec} (hS:S.map (·.1)=gl) (j:At P mu g gl) (hd:fm E.n gl=true) {R:Fr→St→Prop} {Q:Exit→Act→World→Prop} (hQ: ∀fr st G a w,R fr st→Conc E G fr st a w→Q .normal a w):
  ∀(fuel:Nat) (listed:Array Bool) (fr:Fr) (st:St) (G:Gho) (a:Act) (w:World),Conc E G fr st a w→Ac P g S X R fuel listed fr st→wpAny P .any g Q fuel listed a w
 |0,listed,fr,st,G,a,w,T,h=>⟨h.1,hQ _ _ _ _ _ h.2 T⟩
 |fuel+1,listed,fr,st,G,a,w,T,h=>by
  refine ⟨fun h0=>hQ _ _ _ _ _ (h.1 h0) T,fun i hi=> ?_⟩;obtain ⟨x,rs,hSi,J⟩:=h.2 i hi;have hg:gl[i]? =some x:=by rw [←hS,gA8,hSi];rfl
  have hil:i<g.size:=by
   rw [←j.1];exact (gA0 hg).1
  have ho:g[i]? =some g[i]:=Array.getElem?_eq_getElem hil;unfold wpOp;simp only [ho];cases hXi:X i with
  |none=>
   rw [hXi] at J;obtain ⟨fr',st',p,hs,hp,h3⟩:=eS J;have C:=GA (Q:=Q) (K:=wpAny P .any g Q fuel (listed.setIfInBounds i true)) T j ho hg hs hp (bX hd hg) (fun G' a' w' U=>eX hS j hd hQ fuel _ fr' st' G' a' w' U h3);split at C
   ·rename_i hw;rw [if_pos hw];exact .inl C
   ·rename_i hw;rw [if_neg hw];exact C
  |some sp=>
   rw [hXi] at J;rcases rY J with ⟨d,f,xs,e,h⟩|⟨⟨d,e,b,y,z,e'⟩,h⟩
   rotate_left
   ·clear J
    subst e';unfold rX at h;split at h
    ·rename_i fr1 st1 p d1 id hgs hdst _
     obtain ⟨k1,k2,k3,k4,k5,k6⟩:=h;split at k6
     ·rename_i k esz rows hfd
      obtain ⟨rfl,k6⟩:=k6
      have C:=GA (Q:=Q) (K:=wpAny P .any g Q fuel (listed.setIfInBounds i true)) T j ho hg hgs k1 (bX hd hg) (fun G' a' w' U=>by
       obtain ⟨cap,m,q1,q2,G2,hC2⟩:=U.open _ _ id hfd k2 k5 k3 k4;exact eX hS j hd hQ fuel _ _ _ G2 a' w' hC2 (k6 cap m q1 q2))
      split at C
      ·rename_i hw;rw [if_pos hw];exact .inl C
      ·rename_i hw;rw [if_neg hw];exact C
     ·exact k6.elim
    ·exact h.elim
   clear J;subst e;obtain ⟨h1,h2,h3⟩:=j.2 i _ _ ho hg;rw [tZ (i:= .calls d (.k (.fn f [])) xs) (fr:=fun _=>none) h1 rfl,if_pos rfl];refine .inl ?_;obtain ⟨c,fo,k1,k2,k3,k4,k5⟩:=BS h2;obtain ⟨us,hfe,hus⟩:=bY (T.ev k3 (show Opd.ev fr (.k (.fn f []))=some (.fn f []) from rfl)).1;subst k5;unfold callX at h;cases hav:evs fr xs with
   |none=>rw [hav] at h;exact h.elim
   |some av=>
    rw [hav] at h;simp only at h;split at h
    ·rename_i bs S' hbs hSS
     obtain ⟨hM,hok,hT⟩:=h;exact BR (I:=sp.I) (S' :=sp.S') (r:=sp.r) T k1 k2 hfe hus k4 hav hbs hSS hok (by rw [List.append_nil];exact hM) (fun d hd' =>bX hd hg d hd') fun i' hi' G' a' w' hC' =>eX hS j hd hQ fuel _ _ _ G' a' w' hC' (hT i' hi')
    ·exact h.elim
end
end Go.Proofs.YtbgflifmanjpjaaGreatDoor
