/- Part 47. -/
import Derived.Test.YtbgflifmanjpjaaGreatDoorS46
import Derived.StringKeys
set_option linter.unusedSimpArgs false
set_option linter.unusedVariables false
namespace Go.Proofs.YtbgflifmanjpjaaGreatDoor
section
open Go.RowKit Go.Maps Go.MapKept Go.ChangeMaps
abbrev DF:=List (ByteArray×List ND)
def aY (d:DF):List MRow:=d.map fun p=>([.str p.1],[.lst .any 16 (aU p.2)])
def DJ (d:DF) (n:ByteArray):Bool:=d.any fun p=>decide (p.1=n)
theorem pH {d:DF} {n:ByteArray}:DJ d n=true↔n∈d.map Prod.fst:=by
 unfold DJ;rw [List.any_eq_true,List.mem_map];exact ⟨fun ⟨p,g,i⟩=>⟨p,g,gB3 i⟩,fun ⟨p,g,i⟩=>⟨p,g,decide_eq_true i⟩⟩
def fu:DF→List ND→Option DF
 |d,[]=>some d
 |d,n::l=>if n.kind≠6 then fu d l else if DJ d n.name=true then none else fu (d++ [(n.name,n.body)]) l
def SzD (d:DF):Prop:= ∀p∈d,p.1.size≤1000000
theorem rf:Keyed Tryz.prog 9:=string_keyed Tryz.underlying9
theorem tv {s:ByteArray} (h:s.size≤1000000):keyOf Tryz.prog 9 (.string s)=some (.string s.data.toList):=Go.WideMaps.keyOf_string_mk Tryz.underlying9 (by unfold maxLen;omega)
theorem ow {d:DF} (h:SzD d):KeysOk Tryz.prog 9 (aY d):=fun r hr=>by
 obtain ⟨x,g,rfl⟩:=List.mem_map.1 hr;exact ⟨_,_,rfl,tv (h x g)⟩
theorem Ge {d:DF} {n:ByteArray} (b:List ND) (h:n∉d.map Prod.fst):Bx (aY d) [.str n] [.lst .any 16 (aU b)]=aY (d++ [(n,b)]):=by
 unfold Bx;rw [if_neg]
 ·unfold aY
  rw [List.map_append];rfl
 ·rintro ⟨r,hr,g⟩
  obtain ⟨x,i,rfl⟩:=List.mem_map.1 hr;simp at g;exact h (g▸List.mem_map.2 ⟨x,i,rfl⟩)
theorem DK:MOp Tryz.prog (.new 43) [] [] [(1900101,[mcA (aY [])])] (.np 1900101 0):=EE rfl
theorem IE {d:DF} (g:SzD d) {n:ByteArray} (hn:n.size≤1000000) (b:List ND) (h:n∉d.map Prod.fst):MOp Tryz.prog (.set 43) [(1900101,[mcA (aY d)])] [.np 1900101 0,.str n,.lst .any 16 (aU b)] [(1900101,[mcA (aY (d++ [(n,b)]))])] (.bool true):=by
 rw [←Ge b h]
 exact Jz (κ:= [.str n]) (vc:= [.lst .any 16 (aU b)]) rfl Tryz.underlying43 rf (ow g) rfl (tv hn) fun c i=>by
  rw [gB1 i];rfl
theorem Kr (w:World):(zeroValue 56).run Tryz.prog w= .ok (.slice none 0 0) w:=kk
theorem LJ (σ:Sg) (esz:Nat):Rel1 σ (.slice none 0 0) (.lst .any esz []):= .lst .any esz [] none 0 0 0 0 (fun _ _=>undef) rfl (gA4 _) (fun h=>by omega) (fun i c h=>by simp at h) (fun i j h=>by omega) (fun i j c a h=>by simp at h) trivial
theorem Lb {d:DF} (i:SzD d) {n:ByteArray} (hn:n.size≤1000000): ∃X,MOp Tryz.prog (.get 43 true) [(1900101,[mcA (aY d)])] [.np 1900101 0,.str n] [(1900101,[mcA (aY d)])] (.tup [.lst .any 16 X,.bool (DJ d n)]):=by
 by_cases h:n∈d.map Prod.fst
 ·obtain ⟨p,C,rfl⟩:=List.mem_map.1 h
  refine ⟨aU p.2,?_⟩;rw [pH.2 h];exact ED (κ:= [.str p.1]) (z:= [.lst .any 16 []]) (o:=some [.lst .any 16 (aU p.2)]) true (id:=1900101) rfl Tryz.underlying43 rf (ow i) rfl (tv hn) Kr (fun σ=>LJ σ 16) (List.mem_map.2 ⟨p,C,rfl⟩) (by intro c g;rw [gB1 g];rfl)
 ·refine ⟨[],?_⟩
  rw [Bool.eq_false_iff.2 fun k=>h (pH.1 k)]
  exact ED (κ:= [.str n]) (z:= [.lst .any 16 []]) (o:=none) true (id:=1900101) rfl Tryz.underlying43 rf (ow i) rfl (tv hn) Kr (fun σ=>LJ σ 16) (by
   intro r hr j;obtain ⟨x,I,rfl⟩:=List.mem_map.1 hr;simp at j;exact h (j▸List.mem_map.2 ⟨x,I,rfl⟩)) (by intro c g;rw [gB1 g];rfl)
def B4:ACode→ACode
 | .seq _ (.seq _ (.seq _ r))=>r
 |c=>c
theorem Lc {E:Env} {Q:Exit→Fr→St→Prop} (l:List ND) (hl:l.length≤1000000) (hn: ∀n∈l,n.name.size≤1000000) (d:DF) (hd:SzD d)
  (U: ∀d',fu d l=some d' →Q .ret (ax [(4,.np 1900101 0),(5,.int .i64 0)]) ⟨ah [(1900101,[mcA (aY d')],false)],fun _=>0⟩)
  (hno:fu d l=none→Q .ret (ax [(4,.raw (.map none)),(5,.int .i64 13)]) ⟨ah [],fun _=>0⟩):
  AK Tryz.prog E Q [.c (B4 bq)] (ax [(1,.lst .any 16 (aU l)),(6,.np 1900101 0)]) ⟨ah [(1900101,[mcA (aY d)],false)],fun _=>0⟩:=by
 rw [bq];simp only [B4];refine kW ?_;refine aJ (fun x:Nat×DF=>(ax [(6,.np 1900101 0),(24,.lst .any 16 (aU l)),(25,.int .i64 l.length),(26,.int .i64 x.1)],⟨ah [(1900101,[mcA (aY x.2)],false)],fun _=>0⟩)) (fun x=>x.1≤l.length∧fu x.2 (l.drop x.1)=fu d l∧SzD x.2) (fun x=>l.length-x.1) (0,d) ⟨gB8 _,rfl,hd⟩ (wN ⟨kI,kI,⟨_,rfl,.of_eq (congrArg (AV.int _) (congrArg Int.ofNat (fU l)))⟩,kI,trivial⟩ ⟨kJ,trivial⟩ rfl rfl ⟨rfl,trivial⟩) fun ⟨k,i⟩ ⟨hk,g,j⟩=> ?_
 dsimp only at hk g j;refine kW ?_;refine kC (fun hb=> ?_) fun hb=> ?_
 ·have J:k<l.length:=by simpa using hb
  clear hb;obtain ⟨n,hg⟩: ∃n,l[k]? =some n:=⟨_,gA1 J⟩
  have r:=hn n (gA2 hg)
  have hdr:l.drop k=n::l.drop (k+1):=by
   rw [List.drop_eq_getElem_cons J];rw [gA1 J] at hg;cases hg;rfl
  rw [hdr,fu] at g;have C:=Ie hg;obtain ⟨P,nt,nx,ny,I,R,nl⟩:=n;rw [ND.row_eq] at C;have r:I.size≤1000000:=r;have g:(if P≠6 then fu i (l.drop (k+1)) else if DJ i I=true then none else fu (i++ [(I,R)]) (l.drop (k+1)))=fu d l:=g;refine kW ?_;refine kP [.c (ndV P nt nx ny I R nl)] ?_ ?_
  ·((repeat' apply aI)<;>first|exact kD|(intro hgd;refine ⟨?_,kG⟩;(repeat' apply aI)<;>first|exact kD|skip)|skip)
   all_goals first|exact C|(rw [fU];omega)|skip
  refine kW ?_;refine kC (fun hb=> ?_) fun hb=> ?_
  ·have h6:P≠6:=by
    intro h;subst h;cases hb
   clear hb;rw [if_pos h6] at g;refine AK.exit rfl ?_;refine kW ?_;exact AK.lp ⟨(k+1,i),⟨by dsimp only;omega,g,j⟩,wN ⟨kI,kI,kI,kU,trivial⟩ ⟨kJ,trivial⟩ rfl rfl ⟨rfl,trivial⟩,by dsimp only;omega⟩
  have h6:P=6:=by
   have:(P:Int)=6:=by simpa using hb
   omega
  clear hb;rw [if_neg (fun h=>h h6)] at g;obtain ⟨X,hX⟩:=Lb j r;refine kW ?_;refine kQ [.s [1900101] [(1900101,[mcA (aY i)])] (.tup [.lst .any 16 X,.bool (DJ i I)])] ?_;refine kW ?_;refine kC (fun hb=> ?_) fun hb=> ?_
  ·rw [if_pos hb] at g
   clear hb;refine kW ?_;refine AK.weak (wN (row:=fun _=>0) (L:= [(4,.raw (.map none)),(5,.int .i64 13)]) (BL:= []) ⟨kI,kI,trivial⟩ trivial rfl rfl trivial) ?_;exact aR (hno g.symm)
  ·have T: ¬DJ i I=true:=by rw [hb];decide
   clear hb;rw [if_neg T] at g;have hset:=IE j r R (fun h=>T (pH.2 h));refine kW ?_;refine kQ [.s [1900101] [(1900101,[mcA (aY (i++ [(I,R)]))])] (.bool true)] ?_;refine kW ?_;exact AK.lp ⟨(k+1,i++ [(I,R)]),⟨by dsimp only;omega,g,fun p hp=>(gB5 hp).elim (j p) fun h=>by rw [gB1 h];exact r⟩,wN ⟨kI,kI,kI,kU,trivial⟩ ⟨kJ,trivial⟩ rfl rfl ⟨rfl,trivial⟩,by dsimp only;omega⟩
 ·have hge:k=l.length:=by
   have: ¬k<l.length:=by simpa using hb
   omega
  clear hb;rw [gB6 (by omega)] at g;refine AK.exit rfl ?_;refine kW ?_;refine AK.weak (wN (row:=fun _=>0) (L:= [(4,.np 1900101 0),(5,.int .i64 0)]) (BL:= [(1900101,[mcA (aY i)],false)]) ⟨kI,kI,trivial⟩ ⟨kJ,trivial⟩ rfl rfl ⟨rfl,trivial⟩) ?_;exact aR (U i g.symm)
theorem B5 (l:List ND) (hl:l.length≤1000000) (hn: ∀n∈l,n.name.size≤1000000) (d' :DF) (h:fu [] l=some d'):MS Tryz.prog 26 [] [.raw (.map none),.lst .any 16 (aU l)] [(1900101,[mcA (aY d')])] (.tup [.np 1900101 0,.int .i64 0]):=by
 refine MS.enter Tryz.func26 eA eB (by rfl) (by rfl) fun E I=> ?_
 show AK _ _ _ [.c bq] _ _
 have g:=Lc (E:=E) (Q:=RQS ez.res [(1900101,[mcA (aY d')])] (.tup [.np 1900101 0,.int .i64 0])) l hl hn [] (fun p C=>by cases C) (fun J i=>by
  rw [h] at i;cases i;exact ⟨⟨_,rfl,rfl⟩,⟨_,rfl,rfl⟩,trivial⟩) (fun i=>by rw [h] at i;cases i)
 rw [bq] at g⊢;simp only [B4] at g;have j:=DK;refine kW ?_;refine kQ [.s [] [(1900101,[mcA (aY [])])] (.np 1900101 0)] ?_;refine kS ?_;refine AK.mrange0 [] (fun r=>(ax [(1,.lst .any 16 (aU l)),(6,.np 1900101 0),(15,itA r)],⟨ah [(1900101,[mcA (aY [])],false)],fun _=>0⟩)) ?_ ?_ ?_ ?_
 ·trivial
 ·exact fun r=>wN ⟨kI,kI,kI,trivial⟩ ⟨kJ,trivial⟩ rfl rfl ⟨rfl,trivial⟩
 ·exact fun r=>rfl
 ·refine fun r=>⟨[],_,_,_,_,rfl,trivial,?_⟩
  refine kS ?_;refine kCf ?_;refine AK.exitQ ⟨rfl,?_⟩;exact AK.weak (wN (row:=fun _=>0) (L:= [(1,.lst .any 16 (aU l)),(6,.np 1900101 0)]) (BL:= [(1900101,[mcA (aY [])],false)]) ⟨kI,kI,trivial⟩ ⟨kJ,trivial⟩ rfl rfl ⟨rfl,trivial⟩) g
theorem B6 (l:List ND) (hl:l.length≤1000000) (hn: ∀n∈l,n.name.size≤1000000) (h:fu [] l=none):MS Tryz.prog 26 [] [.raw (.map none),.lst .any 16 (aU l)] [] (.tup [.raw (.map none),.int .i64 13]):=by
 refine MS.enter Tryz.func26 eA eB (by rfl) (by rfl) fun E I=> ?_
 show AK _ _ _ [.c bq] _ _;have g:=Lc (E:=E) (Q:=RQS ez.res [] (.tup [.raw (.map none),.int .i64 13])) l hl hn [] (fun p C=>by cases C) (fun J i=>by rw [h] at i;cases i) (fun _=>⟨⟨_,rfl,rfl⟩,trivial⟩);rw [bq] at g⊢;simp only [B4] at g;have j:=DK;refine kW ?_;refine kQ [.s [] [(1900101,[mcA (aY [])])] (.np 1900101 0)] ?_;refine kS ?_;refine AK.mrange0 [] (fun r=>(ax [(1,.lst .any 16 (aU l)),(6,.np 1900101 0),(15,itA r)],⟨ah [(1900101,[mcA (aY [])],false)],fun _=>0⟩)) ?_ ?_ ?_ ?_
 ·trivial
 ·exact fun r=>wN ⟨kI,kI,kI,trivial⟩ ⟨kJ,trivial⟩ rfl rfl ⟨rfl,trivial⟩
 ·exact fun r=>rfl
 ·refine fun r=>⟨[],_,_,_,_,rfl,trivial,?_⟩
  refine kS ?_;refine kCf ?_;refine AK.exitQ ⟨rfl,?_⟩;exact AK.weak (wN (row:=fun _=>0) (L:= [(1,.lst .any 16 (aU l)),(6,.np 1900101 0)]) (BL:= [(1900101,[mcA (aY [])],false)]) ⟨kI,kI,trivial⟩ ⟨kJ,trivial⟩ rfl rfl ⟨rfl,trivial⟩) g
theorem B7 {l:DF} {g i:List MRow} {row:MRow} (h:aY l=g++row::i): ∃(a:DF) (e:ByteArray×List ND) (b:DF),l=a++e::b∧g=aY a∧row=([.str e.1],[.lst .any 16 (aU e.2)])∧i=aY b:=by
 unfold aY at h;obtain ⟨a,b,rfl,j,p⟩:=List.map_eq_append_iff.1 h;obtain ⟨e,r,rfl,C,I⟩:=List.map_eq_cons_iff.1 p;exact ⟨a,e,r,rfl,j.symm,C.symm,I.symm⟩
theorem zD (a b:DF):aY a++aY b=aY (a++b):=by unfold aY;rw [List.map_append]
def clS (g:DF) (l:List ND):List (Nat×List AV):=match fu g l with
 |some d' => [(1900101,[mcA (aY d')])]
 |none=> []
def clR (g:DF) (l:List ND):AV:=match fu g l with
 |some _=> .tup [.np 1900101 0,.int .i64 0]
 |none=> .tup [.raw (.map none),.int .i64 13]
theorem Gf (l:List ND) (hl:l.length≤1000000) (hn: ∀n∈l,n.name.size≤1000000) (d:DF) (hd:SzD d) (hnd:(d.map Prod.fst).Nodup):MS Tryz.prog 26 [(2900001,[mcA (aY d)])] [.np 2900001 0,.lst .any 16 (aU l)] (clS d l) (clR d l):=by
 refine MS.enter Tryz.func26 eA eB (by rfl) (by rfl) fun E hE=> ?_
 show AK _ _ _ [.c bq] _ _;have g:=Lc (E:=E) (Q:=RQS ez.res (clS d l) (clR d l)) l hl hn d hd (fun d2 C=>by unfold clS clR;rw [C];exact ⟨⟨_,rfl,rfl⟩,⟨_,rfl,rfl⟩,trivial⟩) (fun C=>by unfold clS clR;rw [C];exact ⟨⟨_,rfl,rfl⟩,trivial⟩);rw [bq] at g⊢;simp only [B4] at g;have hnew:=DK;refine kW ?_;refine kQ [.s [] [(1900101,[mcA (aY [])])] (.np 1900101 0)] ?_;refine kS ?_;refine AK.mrange 2900001 (aY d) [(2900001,[mcA (aY d)])] [] (fun r (i:DF×DF)=>(ax [(1,.lst .any 16 (aU l)),(6,.np 1900101 0),(15,itA r)],⟨ah [(1900101,[mcA (aY i.2)],false)],fun _=>0⟩)) (fun i=>(i.1++i.2).Perm d) (fun i=>aY i.1) (d,[]) ?_ ?_ rfl ?_ ?_ ?_ ?_ ?_ ?_ ?_ ?_
 ·trivial
 ·simp
 ·intro x J
  rw [gB1 J];rfl
 ·intro x J
  rw [gB1 J];show 1000000≤2900001;omega
 ·intro x J c hc
  rw [gB1 J] at hc;rw [gB1 hc];rfl
 ·exact List.mem_singleton.2 rfl
 ·exact fun r=>wN ⟨kI,kI,kI,trivial⟩ ⟨kJ,trivial⟩ rfl rfl ⟨rfl,trivial⟩
 ·exact fun r i=>rfl
 ·intro E2 r ⟨left,done⟩ la row lb hE2 P hL R
  obtain ⟨a',⟨j,I⟩,b',rfl,rfl,rfl,rfl⟩:=B7 hL;have P:(a' ++(j,I)::b' ++done).Perm d:=P
  have U:((a' ++b')++(done++ [(j,I)])).Perm d:=by
   refine List.Perm.trans ?_ P;rw [List.append_assoc,List.append_assoc];refine List.Perm.append_left _ ?_;rw [List.cons_append,←List.append_assoc];exact List.perm_append_singleton _ _
  have hnz:j.size≤1000000:=hd (j,I) (U.mem_iff.1 (List.mem_append.2 (.inr (List.mem_append.2 (.inr (List.mem_singleton.2 rfl))))));have hdz:SzD done:=fun p h=>hd p (U.mem_iff.1 (List.mem_append.2 (.inr (List.mem_append.2 (.inl h)))))
  have T:j∉done.map Prod.fst:=by
   have h1:=(U.map Prod.fst).nodup_iff.2 hnd;rw [List.map_append] at h1;have C:=(List.nodup_append.1 h1).2.1;rw [List.map_append] at C;have h3:=(List.nodup_append.1 C).2.2;intro hm;exact h3 j hm j (by simp) rfl
  have hset:=IE hdz hnz I T;refine ⟨[],_,_,_,_,rfl,trivial,?_⟩;refine kS ?_;refine kCt ?_;refine kN ?_;refine kB ?_;refine kS ?_;refine AK.ent (rs:= []) R rfl rfl ?_ ?_
  ·(repeat' apply aI)<;>exact kD
  refine kP [.s [1900101] [(1900101,[mcA (aY (done++ [(j,I)]))])] (.bool true)] ?_ ?_
  ·((repeat' apply aI)<;>first|exact kD|(intro hgd;refine ⟨?_,kG⟩;(repeat' apply aI)<;>first|exact kD|skip)|skip)
  refine kL ?_;refine AK.nil ?_;exact JM (a' ++b',done++ [(j,I)]) U (by rw [zD]) (wN ⟨kI,kI,kI,trivial⟩ ⟨kJ,trivial⟩ rfl rfl ⟨rfl,trivial⟩)
 ·intro E2 r ⟨left,done⟩ hE2 P hL
  have hl0:left= []:=List.map_eq_nil_iff.1 hL;subst hl0;refine ⟨[],_,_,_,_,rfl,trivial,?_⟩;refine kS ?_;refine kCf ?_;refine AK.exitMQ ?_;have hpd:(aY done).Perm (aY d):=List.Perm.map _ P;refine AK.weak (wN (row:=fun _=>0) (L:= [(1,.lst .any 16 (aU l)),(6,.np 1900101 0)]) (BL:= [(1900101,[mcA (aY done)],false)]) ⟨kI,kI,trivial⟩ ⟨kJ,trivial⟩ rfl rfl ⟨rfl,trivial⟩) ?_;refine AK.weak (Weak.perm (id:=1900101) rfl rfl hpd) ?_;exact AK.weak (wN (row:=fun _=>0) (L:= [(1,.lst .any 16 (aU l)),(6,.np 1900101 0)]) (BL:= [(1900101,[mcA (aY d)],false)]) ⟨kI,kI,trivial⟩ ⟨kJ,trivial⟩ rfl rfl ⟨rfl,trivial⟩) g
end
section
open Go.RowKit
theorem zH: ∀(l:List ND) (d d' :DF),(d.map Prod.fst).Nodup→fu d l=some d' →(d'.map Prod.fst).Nodup
 | [],d,d',g,h=>by cases h;exact g
 |n::l,d,d',g,h=>by
  rw [fu] at h;split at h
  ·exact zH l d d' g h
  ·split at h
   ·cases h
   ·rename_i j
    refine zH l _ d' ?_ h;rw [List.map_append];refine List.nodup_append.2 ⟨g,by simp,fun a i b hb e=> ?_⟩;rw [List.map_singleton,List.mem_singleton] at hb;exact j (pH.2 (by rw [e,hb] at i;exact i))
theorem zI: ∀(l:List ND) (d d' :DF),SzD d→(∀n∈l,n.name.size≤1000000)→fu d l=some d' →SzD d'
 | [],d,d',i,_,h=>by cases h;exact i
 |n::l,d,d',i,hn,h=>by
  have hl: ∀n∈l,n.name.size≤1000000:=fun x j=>hn x (List.mem_cons_of_mem _ j)
  rw [fu] at h;split at h
  ·exact zI l d d' i hl h
  ·split at h
   ·cases h
   ·refine zI l _ d' (fun p g=> ?_) hl h
    rcases gB5 g with g|g
    ·exact i p g
    ·rw [gB1 g]
     exact hn n (List.mem_cons_self ..)
theorem Gg (s:Bs):(mP s).1.length≤s.length:=by
 have hl:=cu s;unfold mP JK;cases g:tlw s with
 |nil=>exact gB8 _
 |cons c t=>
  rw [g,gA3] at hl;dsimp only;split
  ·exact gB8 _
  ·rename_i h
   split at h
   ·cases h
    have:=fL t;show (nmL t).length≤_;omega
   ·cases h
theorem rg (s:Bs):(ig s).1.length≤s.length:=by
 have hl:=Gg s;unfold ig;generalize mP s=q at*;obtain ⟨n,r,b⟩:=q;dsimp only at hl⊢;cases b
 ·exact hl
 ·dsimp only
  split<;>exact hl
theorem B8 (s:Bs):(ft s).2.1.length≤s.length:=by
 have hl:=vO s;have g:=rg s;unfold ft;generalize mP s=q at*;obtain ⟨key,rest,b⟩:=q;dsimp only at hl⊢;have i:=rg (rest.drop 1);rw [gA6] at i;generalize ig (rest.drop 1)=q1 at*;generalize ig s=j at*;obtain ⟨p,r,C⟩:=q1;obtain ⟨I,J,c2⟩:=j;dsimp only at i g⊢;split<;>split<;>first|exact gB8 _|(show p.length≤_;omega)|exact g
theorem DL (m:MK) (w s:Bs):(eH m w s).1.name.size≤s.length:=by
 unfold eH;split
 ·exact gB8 _
 ·split
  ·exact gB8 _
  ·split
   ·exact EV s
   ·show (toB (ft s).2.1).size≤_
    rw [ae];exact B8 s
theorem fY: ∀(n:Nat) (k:NM) (m:MK) (N:Nat),m.at_≤m.l.length→(∀t∈m.l,t.s.length≤N)→(match k with| .nodes out=> ∀nd∈out,nd.name.size≤N| .block _ s=>s.length≤N)→ ∀nd∈(ndF n k m).1,nd.name.size≤N
 |0,k,m,N,_,_,_,nd,h=>by cases h
 |n+1,.nodes out,m,N,P,h,j,nd,g=>by
  have j: ∀nd∈out,nd.name.size≤N:=j
  rw [ndF] at g;cases r:m.l[m.at_]? with
  |none=>
   rw [r] at g;exact j nd g
  |some t=>
   rw [r] at g;have ht:=h t (gA2 r);have p:=(gA0 r).1;dsimp only at g;have i:=fun s=>(⟨m.l,m.at_+1,m.deep,m.bad⟩:MK).pipe_at s ⟨MK.pipe_l _ s,p⟩
   have snoc: ∀x:ND,x.name.size≤N→ ∀y∈out++ [x],y.name.size≤N:=fun x r y hy=>(gB5 hy).elim (j y) fun h=>by rw [gB1 h];exact r
   have C:=rg t.s;split at g
   ·exact fY n (.nodes (out++ [.mk 0 (toB t.s) EX.null ⟨#[]⟩ ⟨#[]⟩ [] []])) ⟨m.l,m.at_+1,m.deep,m.bad⟩ N p h (snoc _ (gB8 _)) nd g
   ·split at g
    ·exact j nd g
    ·split at g
     ·have I:=eu n (.block (nmL t.s) (bZ t.s)) ⟨m.l,m.at_+1,m.deep,m.bad⟩ p
      have hb:=fY n (.block (nmL t.s) (bZ t.s)) ⟨m.l,m.at_+1,m.deep,m.bad⟩ N p h (by show (bZ t.s).length≤N;unfold bZ;rw [gA6];omega);exact fY n _ _ N (by rw [I.1];exact I.2.2.1) (by rw [I.1];exact h) (fun y hy=>(gB5 hy).elim (j y) (hb y)) nd g
     ·split at g
      ·rename_i name rest R
       rw [R] at C;exact fY n _ _ N (by rw [(i _).1];exact (i _).2.2) (by rw [(i _).1];exact h) (snoc _ (by show (toB name).size≤N;rw [ae];exact gB7 C ht)) nd g
      ·exact fY n _ _ N (by rw [(i _).1];exact (i _).2.2) (by rw [(i _).1];exact h) (snoc _ (gB8 _)) nd g
 |n+1,.block w s,m,N,P,h,j,nd,g=>by
  have j:s.length≤N:=j;have J:=DL ⟨m.l,m.at_,IntKind.i64.wrap (m.deep+1),m.bad⟩ w s;rw [ndF] at g;dsimp only at g;split at g
  ·rw [gB1 g]
   exact gB8 _
  ·split at g
   ·rw [gB1 g]
    exact gB7 J j
   ·split at g<;>(rw [gB1 g];exact gB7 J j)
theorem j6 (s:Bs): ∀nd∈(bL s).1,nd.name.size≤65536:=by
 have g:=ov s;unfold bL;generalize cG s=q at g;obtain ⟨l,e⟩:=q;dsimp only at g⊢;intro nd h;split at h
 ·cases h
 ·have hn:=fY (3*l.length+3) (.nodes []) ⟨l,0,0,0⟩ 65536 (gB8 _) g.2 (fun nd h=>by cases h)
  generalize ndF (3*l.length+3) (.nodes []) ⟨l,0,0,0⟩=r at hn h;obtain ⟨out,stop,rest,m⟩:=r;dsimp only at hn h;split at h
  ·cases h
  ·split at h
   ·cases h
   ·exact hn nd h
theorem vR (s:Bs):(bL s).1.length≤65537:=by
 have g:=ov s;unfold bL;generalize cG s=q at g;obtain ⟨l,e⟩:=q;dsimp only at g⊢;split
 ·exact gB8 _
 ·have hn:=eu (3*l.length+3) (.nodes []) ⟨l,0,0,0⟩ (gB8 _)
  generalize ndF (3*l.length+3) (.nodes []) ⟨l,0,0,0⟩=r at hn;obtain ⟨out,stop,rest,m⟩:=r;obtain ⟨_,_,i,j,_⟩:=hn;have p:out.length+0≤0+m.at_:=(j _ rfl).1;have i:m.at_≤l.length:=i;dsimp only;split
  ·exact gB8 _
  ·split
   ·exact gB8 _
   ·show out.length≤_
    have:=g.1;omega
def abN:ByteArray:=⟨#[67,104,97,114,116,46,121,97,109,108]⟩
def vaN:ByteArray:=⟨#[118,97,108,117,101,115,46,121,97,109,108]⟩
def teN:ByteArray:=⟨#[116,101,109,112,108,97,116,101,115,47]⟩
structure CS where
 nm:ByteArray
 ver:ByteArray
 v:V
 ts:List (Fl×List ND)
 d:DF
def lN (d:DF) (s:ByteArray):Option (List ND×DF)×Int:=if (bL s.data.toList).2≠0 then (none,(bL s.data.toList).2) else match fu d (bL s.data.toList).1 with
 |none=>(none,13)
 |some d' =>(some ((bL s.data.toList).1,d'),0)
def CS.add (c:CS) (f:Fl) (x:List ND×DF):CS:=⟨c.nm,c.ver,c.v,c.ts++ [(f,x.1)],x.2⟩
def CS.step (c:CS) (f:Fl):CS×Int:=if f.1=abN then (⟨(fi c.nm c.ver f.2).1,(fi c.nm c.ver f.2).2.1,c.v,c.ts,c.d⟩,(fi c.nm c.ver f.2).2.2)
 else if f.1=vaN then (⟨c.nm,c.ver,(qP c.v f.2).1,c.ts,c.d⟩,(qP c.v f.2).2)
 else if eE f.1 teN=true then match lN c.d f.2 with
  |(some x,_)=>(c.add f x,0)
  |(none,e)=>(c,e)
 else (c,0)
def CS.all:CS→List Fl→CS×ByteArray×Int
 |c,[]=>(c,⟨#[]⟩,0)
 |c,f::l=>if (c.step f).2≠0 then (c,f.1,(c.step f).2) else (c.step f).1.all l
def cs0:CS:=⟨⟨#[]⟩,⟨#[]⟩,b8 [],[],[]⟩
def gK (l:List Fl):CS×ByteArray×Int:=if (aw l).2.2≠0 then (cs0,(aw l).2) else if (cs0.all (aw l).1).2.2≠0 then cs0.all (aw l).1 else if (cs0.all (aw l).1).1.nm=⟨#[]⟩ then (cs0,abN,3) else cs0.all (aw l).1
theorem ya {d:DF} {s:ByteArray} {x:List ND×DF} (h:(lN d s).1=some x):(bL s.data.toList).2=0∧x.1=(bL s.data.toList).1∧fu d (bL s.data.toList).1=some x.2∧(lN d s).2=0:=by
 unfold lN at h⊢;split
 ·rename_i g;rw [if_pos g] at h;cases h
 ·rename_i g
  rw [if_neg g] at h;have g:(bL s.data.toList).2=0:=by omega
  cases i:fu d (bL s.data.toList).1 with
  |none=>rw [i] at h;cases h
  |some d' =>rw [i] at h;cases h;exact ⟨g,rfl,rfl,rfl⟩
theorem DM (l:List Fl) (hl:l.length≤4398046511103) (hz:l.length≤32→ ∀p∈l,p.1.size≤1000000):AC Tryz.prog 50 [.lst .any 2 (aq l)] (.tup [.str (aw l).2.1,.int .i64 (aw l).2.2]):=by
 generalize I:aw l=R;unfold aw at I;have hll:=ak l;refine kE Tryz.func50 qH qI fun E hE=> ?_
 refine kW ?_;refine kC (fun hb=> ?_) fun hb=> ?_
 ·have U:32<l.length:=by
   have:(l.length:Int)>32:=by simpa [ak] using hb
   omega
  rw [if_pos U] at I;subst I;refine kW ?_;refine aR ⟨_,rfl,?_⟩;rfl
 have U: ¬32<l.length:=by
  have: ¬(l.length:Int)>32:=by simpa [ak] using hb
  omega
 rw [if_neg U] at I;clear hb;refine kW ?_;refine aJ (fun k:Nat=>(ax [(0,.lst .any 2 (aq l)),(4,.int .i64 k)],⟨ah [],fun _=>0⟩)) (fun k=>k≤l.length∧cU [] l=cU (l.take k) (l.drop k)) (fun k=>l.length-k) 0 ⟨gB8 _,rfl⟩ (wO ⟨kI,kI,trivial⟩ trivial rfl rfl) fun k hk=> ?_
 obtain ⟨hk,hE2⟩:=hk;refine kW ?_;refine kC (fun hb=> ?_) fun hb=> ?_
 ·have P:k<l.length:=by simpa [ak] using hb
  obtain ⟨p,hg⟩: ∃x,l[k]? =some x:=⟨_,gA1 P⟩
  have r:=bY hg;have hnm:=rJ p.1 (gB7 (hz (by omega) p (gA2 hg)) (by omega));have C:=xI hg;rw [←hE2] at C;clear hb;refine kW ?_;refine kP [.c [.str p.1,.str p.2],.v (.bool (cA p.1))] ?_ ?_
  ·((repeat' apply aI)<;>first|exact kD|(intro J;refine ⟨?_,kG⟩;(repeat' apply aI)<;>first|exact kD|skip)|skip)
   all_goals first|exact r|skip
  cases hn:cA p.1 with
  |false=>
   have hf:cT (l.take k) p=22:=by unfold cT;rw [if_pos hn]
   rw [hf,if_pos (by decide)] at C;rw [C,if_pos (by dsimp only;decide)] at I;subst I;refine kCt ?_;refine kW ?_;refine kP [.c [.str p.1,.str p.2]] ?_ ?_
   ·((repeat' apply aI)<;>first|exact kD|(intro J;refine ⟨?_,kG⟩;(repeat' apply aI)<;>first|exact kD|skip)|skip)
    all_goals first|exact r|skip
   refine kW ?_;refine aR ⟨_,rfl,?_⟩;rfl
  |true=>
   refine kCf ?_;refine kW ?_;refine kP [.c [.str p.1,.str p.2]] ?_ ?_
   ·((repeat' apply aI)<;>first|exact kD|(intro J;refine ⟨?_,kG⟩;(repeat' apply aI)<;>first|exact kD|skip)|skip)
    all_goals first|exact r|skip
   refine kC (fun hb=> ?_) fun hb=> ?_
   ·have hs:65536<p.2.size:=by
     have:(p.2.size:Int)>65536:=by simpa using hb
     omega
    have hf:cT (l.take k) p=6:=by unfold cT;rw [if_neg (by rw [hn];simp),if_pos hs]
    rw [hf,if_pos (by decide)] at C;rw [C,if_pos (by dsimp only;decide)] at I;subst I;refine kW ?_;refine kP [.c [.str p.1,.str p.2]] ?_ ?_
    ·((repeat' apply aI)<;>first|exact kD|(intro J;refine ⟨?_,kG⟩;(repeat' apply aI)<;>first|exact kD|skip)|skip)
     all_goals first|exact r|skip
    refine kW ?_;refine aR ⟨_,rfl,?_⟩;rfl
   have hs: ¬65536<p.2.size:=by
    have: ¬(p.2.size:Int)>65536:=by simpa using hb
    omega
   clear hb;refine kW ?_;refine aJ (fun j:Nat=>(ax [(0,.lst .any 2 (aq l)),(4,.int .i64 k),(5,.int .i64 j)],⟨ah [],fun _=>0⟩)) (fun j=>j≤k∧ ∀i q,i<j→l[i]? =some q→q.1≠p.1) (fun j=>k-j) 0 ⟨gB8 _,fun i q h=>absurd h (Nat.not_lt_zero _)⟩ (wO ⟨kI,kI,kI,trivial⟩ trivial rfl rfl) fun j hj=> ?_
   obtain ⟨hj,hno⟩:=hj;refine kW ?_;refine kC (fun hb=> ?_) fun hb=> ?_
   ·have T:j<k:=by
     have:(j:Int)<k:=by simpa using hb
     omega
    obtain ⟨q,hq⟩: ∃x,l[j]? =some x:=⟨_,gA1 (Nat.lt_trans T P)⟩
    have hrow2:=bY hq;clear hb;refine kW ?_;refine kP [.c [.str q.1,.str q.2],.c [.str p.1,.str p.2]] ?_ ?_
    ·((repeat' apply aI)<;>first|exact kD|(intro J;refine ⟨?_,kG⟩;(repeat' apply aI)<;>first|exact kD|skip)|skip)
     all_goals first|exact r|exact hrow2|skip
    refine kC (fun hb=> ?_) fun hb=> ?_
    ·have he:q.1=p.1:=by simpa using hb
     have ha:((l.take k).any fun g=>decide (g.1=p.1))=true:=List.any_eq_true.2 ⟨q,gA2 (by rw [List.getElem?_take,if_pos T];exact hq),decide_eq_true he⟩;have hf:cT (l.take k) p=13:=by unfold cT;rw [if_neg (by rw [hn];simp),if_neg hs,if_pos ha]
     rw [hf,if_pos (by decide)] at C;rw [C,if_pos (by dsimp only;decide)] at I;subst I;refine kW ?_;refine kP [.c [.str p.1,.str p.2]] ?_ ?_
     ·((repeat' apply aI)<;>first|exact kD|(intro J;refine ⟨?_,kG⟩;(repeat' apply aI)<;>first|exact kD|skip)|skip)
      all_goals first|exact r|skip
     refine kW ?_;refine aR ⟨_,rfl,?_⟩;rfl
    ·have he:q.1≠p.1:=by simpa using hb
     refine kW ?_
     exact AK.lp ⟨j+1,⟨by omega,fun i x hi hx=>by
      by_cases hij:i=j
      ·subst hij;rw [hq] at hx;cases hx;exact he
      ·exact hno i x (by omega) hx⟩,wO ⟨kI,kI,kU,trivial⟩ trivial rfl rfl,by omega⟩
   ·have T:j=k:=by
     have: ¬(j:Int)<k:=by simpa using hb
     omega
    subst T
    have ha: ¬((l.take j).any fun g=>decide (g.1=p.1))=true:=fun h=>by
     obtain ⟨g,h1,h2⟩:=List.any_eq_true.1 h;obtain ⟨i,hi⟩:=List.getElem?_of_mem h1;rw [List.getElem?_take] at hi;split at hi
     ·rename_i hij;exact hno i g hij hi (gB3 h2)
     ·cases hi
    have hf:cT (l.take j) p=0:=by unfold cT;rw [if_neg (by rw [hn];simp),if_neg hs,if_neg ha]
    rw [hf,if_neg (by decide)] at C;clear hb;refine AK.exit rfl ?_;refine kW ?_;exact AK.lp ⟨j+1,⟨by omega,C⟩,wO ⟨kI,kU,trivial⟩ trivial rfl rfl,by omega⟩
 ·have P:k=l.length:=by
   have:l.length≤k:=by simpa [ak] using hb
   omega
  subst P;clear hb hk;rw [List.drop_length,cU] at hE2;rw [hE2,if_neg (by decide)] at I;subst I;refine AK.exit rfl ?_;refine kW ?_;refine aR ⟨_,rfl,?_⟩;rfl
def tmB (s:ByteArray):Bool:=decide ((s.size:Int)>10)&&decide (s.extract 0 10=teN)
theorem vS (s:ByteArray) (i:s.size≤140737488355328):AC Tryz.prog 23 [.str s] (.bool (tmB s)):=by
 refine kE Tryz.func23 mH mI fun E j=> ?_
 refine kW ?_;refine kP [] ?_ ?_
 ·((repeat' apply aI)<;>first|exact kD|(intro g;refine ⟨?_,kG⟩;(repeat' apply aI)<;>first|exact kD|skip)|skip)
  all_goals (have p:=gB3 (show decide _=true from g);omega)
 refine kW ?_;refine aR ⟨_,rfl,?_⟩;rfl
def c7 (s:ByteArray):Nat→Nat
 |0=>0
 |k+1=>if (s.data.getD k 0).toNat=47 then k+1 else c7 s k
theorem pI (s:ByteArray): ∀k,c7 s k≤k
 |0=>gA4 _
 |k+1=>by
  rw [c7];split
  ·exact gA4 _
  ·exact Nat.le_succ_of_le (pI s k)
theorem DN (s:ByteArray) (C:s.size≤140737488355328):AC Tryz.prog 103 [.str s,.int .u8 47] (.int .i64 ((c7 s s.size:Int)-1)):=by
 refine kE Tryz.func103 eo ep fun E I=> ?_
 refine kW ?_;refine aJ (fun k:Nat=>(ax [(0,.str s),(1,.int .u8 47),(5,.int .i64 ((k:Int)-1))],⟨ah [],fun _=>0⟩)) (fun k=>k≤s.size∧c7 s s.size=c7 s k) (fun k=>k) s.size ⟨gA4 _,rfl⟩ (wO ⟨kI,kI,⟨_,rfl,.of_eq (congrArg (AV.int .i64) (aD (by omega) (by omega)))⟩,trivial⟩ trivial rfl rfl) fun k r=> ?_
 obtain ⟨r,i⟩:=r;refine kW ?_;refine kC (fun hb=> ?_) fun hb=> ?_
 ·obtain ⟨j,rfl⟩: ∃j,k=j+1:=⟨k-1,by
   have:(k:Int)-1≥0:=by simpa using hb
   omega⟩
  clear hb;rw [c7] at i;rw [show (((j+1:Nat):Int)-1)=(j:Int) by omega];refine kW ?_;refine kQ [] ?_;refine kC (fun hb=> ?_) fun hb=> ?_
  ·have g:(s.data.getD j 0).toNat=47:=by
    have:(((s.data.getD j 0).toNat:Nat):Int)=47:=by simpa using hb
    omega
   rw [if_pos g] at i;rw [i,show (((j+1:Nat):Int)-1)=(j:Int) by omega];refine kW ?_;refine aR ⟨_,rfl,?_⟩;rfl
  ·have g: ¬(s.data.getD j 0).toNat=47:=fun h=>by
    have: ¬(((s.data.getD j 0).toNat:Nat):Int)=47:=by simpa using hb
    omega
   rw [if_neg g] at i;refine kW ?_;exact AK.lp ⟨j,⟨by omega,i⟩,wO ⟨kI,kI,⟨_,rfl,.of_eq (congrArg (AV.int .i64) (aD (by omega) (by omega)))⟩,trivial⟩ trivial rfl rfl,by omega⟩
 ·have p:k=0:=by
   have: ¬(k:Int)-1≥0:=by simpa using hb
   omega
  subst p;clear hb;rw [i];refine AK.exit rfl ?_;refine kW ?_;refine aR ⟨_,rfl,?_⟩;rfl
theorem s7 (s:ByteArray) (g:s.size≤140737488355328):AC Tryz.prog 56 [.str s,.int .u8 47] (.int .i64 ((c7 s s.size:Int)-1)):=by
 have h:=DN s g;refine kE Tryz.func56 gz gA fun E i=> ?_
 refine kW ?_;refine kQ [.v (.int .i64 ((c7 s s.size:Int)-1))] ?_;refine kW ?_;refine aR ⟨_,rfl,?_⟩;rfl
def pJ (s:ByteArray):Bool:=decide ((c7 s s.size:Int)<s.size)&&decide (((s.data.getD (c7 s s.size) 0).toNat:Int)=95)
theorem Gh (s:ByteArray):eE (s.extract (c7 s s.size) s.size) ⟨#[95]⟩=pJ s:=by
 have g:=pI s s.size;unfold pJ;generalize c7 s s.size=n at*;obtain ⟨l,hl⟩: ∃l:Bs,s.extract n s.size=toB l:=⟨(s.extract n s.size).data.toList,(Eu _).symm⟩
 rw [hl,iL]
 have i:l=s.data.toList.drop n:=by
  have:(s.extract n s.size).data.toList=l:=by rw [hl];rfl
  rw [←this];simp [ByteArray.data_extract];exact List.take_of_length_le (by simp)
 subst i;by_cases hn:n<s.size
 ·rw [List.drop_eq_getElem_cons (by simpa using hn),decide_eq_true (show (n:Int)<s.size by omega),Bool.true_and]
  dsimp only;rw [Bool.eq_iff_iff,beq_iff_eq,decide_eq_true_iff,Array.getD,dif_pos (show n<s.data.size from hn)];rw [Array.getElem_toList];constructor
  ·intro h
   show ((s.data[n].toNat:Nat):Int)=95;rw [h];rfl
  ·intro h
   have h:((s.data[n].toNat:Nat):Int)=95:=h;exact UInt8.toNat_inj.1 (show s.data[n].toNat=95 by omega)
 ·rw [gB6 (by simpa using Nat.le_of_not_lt hn),decide_eq_false (show¬(n:Int)<s.size by omega)]
  rfl
theorem yb (s:ByteArray) (i:s.size≤140737488355328):AC Tryz.prog 19 [.str s] (.bool (pJ s)):=by
 have j:=pI s s.size;have h:=s7 s i;have g:=rE (s.extract (c7 s s.size) s.size) ⟨#[95]⟩;rw [Gh] at g
 have e:IntKind.i64.wrap ((c7 s s.size:Int)-1+1)=(c7 s s.size:Int):=by
  rw [aD (by omega) (by omega)];omega
 refine kE Tryz.func19 oa ob fun E r=> ?_
 refine kW ?_;refine kP [.v (.int .i64 ((c7 s s.size:Int)-1)),.v (.bool (pJ s))] ?_ ?_
 ·((repeat' apply aI)<;>first|exact kD|(intro p;refine ⟨?_,kG⟩;(repeat' apply aI)<;>first|exact kD|skip)|skip)
  all_goals first|(rw [e];first|exact g|omega)|skip
 refine kW ?_;refine aR ⟨_,rfl,?_⟩;rfl
theorem zJ (s:ByteArray) (C:s.size≤140737488355328):AC Tryz.prog 20 [.str s] (.bool (pJ s)):=by
 refine kE Tryz.func20 n8 n9 fun E I=> ?_
 refine kW ?_;refine aJ (fun k:Nat=>(ax [(0,.str s),(3,.int .i64 (c7 s k)),(4,.int .i64 k)],⟨ah [],fun _=>0⟩)) (fun k=>k≤s.size) (fun k=>s.size-k) 0 (gB8 _) (wO ⟨kI,kI,kI,trivial⟩ trivial rfl rfl) fun k J=> ?_
 have p:=pI s k;refine kW ?_;refine kC (fun hb=> ?_) fun hb=> ?_
 ·have r:k<s.size:=by
   have:(k:Int)<s.size:=by simpa using hb
   omega
  clear hb;refine kW ?_;refine kQ [] ?_;refine kC (fun hb=> ?_) fun hb=> ?_
  ·have g:c7 s (k+1)=k+1:=by
    have:(((s.data.getD k 0).toNat:Nat):Int)=47:=by simpa using hb
    rw [c7,if_pos (by omega)]
   clear hb;refine kW ?_;exact AK.lp ⟨k+1,by omega,wO ⟨kI,⟨_,rfl,.of_eq (congrArg (AV.int .i64) (by rw [g,aD (by omega) (by omega)];omega))⟩,kU,trivial⟩ trivial rfl rfl,by omega⟩
  ·have g:c7 s (k+1)=c7 s k:=by
    have: ¬(((s.data.getD k 0).toNat:Nat):Int)=47:=by simpa using hb
    rw [c7,if_neg (by omega)]
   clear hb;refine kW ?_;exact AK.lp ⟨k+1,by omega,wO ⟨kI,⟨_,rfl,.of_eq (congrArg (fun n:Nat=>AV.int .i64 (n:Int)) g.symm)⟩,kU,trivial⟩ trivial rfl rfl,by omega⟩
 ·have i:k=s.size:=by
   have: ¬(k:Int)<s.size:=by simpa using hb
   omega
  subst i;clear hb;refine AK.exit rfl ?_;refine kW ?_;refine kP [] ?_ ?_
  ·((repeat' apply aI)<;>first|exact kD|(intro j;refine ⟨?_,kG⟩;(repeat' apply aI)<;>first|exact kD|skip)|skip)
   all_goals exact gB3 (show decide _=true from j)
  refine kW ?_;refine aR ⟨_,rfl,?_⟩;rfl
end
end Go.Proofs.YtbgflifmanjpjaaGreatDoor
