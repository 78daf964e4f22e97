/- Part 16. -/
import Derived.Test.YtbgflifmanjpjaaGreatDoorS15
set_option linter.unusedSimpArgs false
set_option linter.unusedVariables false
namespace Go.Proofs.YtbgflifmanjpjaaGreatDoor
section
open Go.RowKit
def bP (m:List (ByteArray×V)):V:= .mk 5 false 0 ⟨#[]⟩ [] m
theorem bX (m:List (ByteArray×V)):(bP m).size=1+aA m:=by simp [bP,V.size,aK]
theorem cT:V.null.size=1:=by rw [V.size_eq];rfl
mutual
def V.ord:V→Prop
 | .mk k b n s l m=>(k=5→b=false∧n=0∧s=⟨#[]⟩∧l= [])∧(k≠5→m= [])∧Rises m∧Js m
def Js:List (ByteArray×V)→Prop
 | []=>True
 |(_,x)::m=>x.ord∧Js m
end
theorem Jt (m:List (ByteArray×V)):Js m↔ ∀p∈m,p.2.ord:=by
 induction m with
 |nil=>simp [Js]
 |cons p m ih=>obtain ⟨y,x⟩:=p;rw [Js,ih,List.forall_mem_cons]
theorem V.ord_eq (v:V):v.ord↔(v.kind=5→v=bP v.m)∧(v.kind≠5→v.m= [])∧Rises v.m∧ ∀p∈v.m,p.2.ord:=by
 cases v with
 |mk k b n s l m=>
  rw [V.ord,Jt];refine and_congr (imp_congr_right fun g=> ?_) Iff.rfl;have g:k=5:=g;subst g;simp only [bP,V.mk.injEq,V.m,and_true,true_and]
theorem eF:V.null.ord:=by
 refine (V.ord_eq _).2 ⟨fun h=> ?_,fun _=>rfl,List.Pairwise.nil,fun p h=>by cases h⟩;exact absurd h (by decide)
theorem fD {m:List (ByteArray×V)} (hr:Rises m) (h: ∀p∈m,p.2.ord):(bP m).ord:=(V.ord_eq _).2 ⟨fun _=>rfl,fun h=>absurd rfl h,hr,h⟩
theorem Am: ∀(n:Nat) (v:V),v.size≤n→v.good→v.ord:=by
 intro n
 induction n with
 |zero=>intro v h;have:=v.size_pos;omega
 |succ n ih=>
  intro v h hg;have j:=v.size_eq;refine (V.ord_eq v).2 ⟨fun g=> ?_,fun g=>Ek hg g,D9 hg,fun p i=> ?_⟩
  ·have hb:=(v.good_eq.1 hg).1
   cases v with
   |mk k b n s l m=>
    simp only [V.kind] at g;subst g;simp only [V.kind,V.b,V.n,V.s,V.l,V.m,lL] at hb;simp at hb;simp only [bP,V.m];obtain ⟨⟨⟨r,C⟩,I⟩,J⟩:=hb;have P:n=0:=Decidable.not_not.1 (gB4 C);have R:s=⟨#[]⟩:=Decidable.not_not.1 (gB4 I);have T:l= []:=List.length_eq_zero_iff.1 (by have:=gB4 J;omega);rw [r,P,R,T]
  ·obtain ⟨y,x⟩:=p
   have:=fa i;simp only at this;exact ih x (by omega) (MW hg i)
theorem V.good.ord {v:V} (h:v.good):v.ord:=Am v.size v (gA4 _) h
end
section
open Go.RowKit
theorem Cf: ∀{m:List (ByteArray×V)} {k:ByteArray} {x:V},aU k m=some x→(k,x)∈m
 |(y,z)::m,k,x,h=>by
  rw [aU] at h;split at h
  ·rename_i e
   cases h;subst e;exact List.mem_cons_self
  ·exact List.mem_cons_of_mem _ (Cf h)
def aRz (p:List ByteArray):List (List AV):=p.map fun s=> [.str s]
theorem bm (l:List ByteArray):(aRz l).length=l.length:=List.length_map _
theorem lT {l:List ByteArray} {k:Nat} {s:ByteArray} (h:l[k]? =some s):(aRz l)[k]? =some [.str s]:=by simp [aRz,h]
theorem Hn (σ:Sg) (l:List ByteArray):RelL σ (l.map Value.string) (aRz l).flatten:=by
 have e:(aRz l).flatten=l.map AV.str:=by
  induction l with
  |nil=>rfl
  |cons x l ih=>simp [aRz] at ih⊢;exact ih
 rw [e];refine ⟨by simp,fun j v a g i=> ?_⟩;rw [gA8] at g i;cases h:l[j]? with
 |none=>rw [h] at g;cases g
 |some x=>
  rw [h] at g i;cases g;cases i;exact .str x
theorem Ju (l:List ByteArray):RowsOk 1 (aRz l):=by
 refine ⟨by omega,fun q g=> ?_⟩;simp only [aRz,List.mem_map] at g;obtain ⟨x,_,rfl⟩:=g;exact ⟨rfl,rfl⟩
theorem v8 {α:Type} {l:List α} {i:Nat} {x:α} (h:l[i]? =some x):x::l.drop (i+1)=l.drop i:=by
 obtain ⟨g,j⟩:=gA0 h;rw [List.drop_eq_getElem_cons g,j]
theorem mG (l:List UInt8) (c:UInt8):(Lib.indexByte l c= -1∧c∉l)∨ ∃i:Nat,Lib.indexByte l c=i∧i<l.length∧l[i]? =some c∧c∉l.take i:=by
 induction l with
 |nil=>exact .inl ⟨rfl,by simp⟩
 |cons b l ih=>
  rw [Lib.indexByte];by_cases h:b=c
  ·subst h
   exact .inr ⟨0,by simp,by simp,rfl,by simp⟩
  ·rw [if_neg (by simpa using h)]
   rcases ih with ⟨g,j⟩|⟨i,g,j,p,r⟩
   ·exact .inl ⟨by rw [g];rfl,by simp [j,Ne.symm h]⟩
   ·refine .inr ⟨i+1,?_,by simp;omega,by simpa using p,by simp [r,Ne.symm h]⟩
    rw [g,if_neg (by simp)];simp
theorem wa (c:UInt8): ∀(fuel:Nat) (l:List UInt8),l.length<fuel→Lib.countFrom [c] fuel l=l.count c
 |0,l,h=>by omega
 |fuel+1,l,h=>by
  rw [Lib.countFrom,Lib.index_one];rcases mG l c with ⟨g,p⟩|⟨i,g,p,r,C⟩
  ·rw [g,List.count_eq_zero_of_not_mem p]
   rfl
  ·have j: ¬((Lib.indexByte l c== -1)=true):=by rw [g];simp
   rw [if_neg j,g,wa c fuel _ (by simp;omega)]
   have e:l=l.take i++c::l.drop (i+1):=by
    rw [v8 r,List.take_append_drop]
   have I:l.count c=(l.take i++c::l.drop (i+1)).count c:=congrArg (List.count c) e;rw [I,List.count_append,List.count_eq_zero_of_not_mem C,List.count_cons_self];simp;omega
def cj (c:UInt8) (s:ByteArray):List ByteArray:=Lib.splitB ⟨#[c]⟩ 0 (Lib.countB s ⟨#[c]⟩) s
theorem pS (c:UInt8) (s:ByteArray):(cj c s).length=Lib.countB s ⟨#[c]⟩+1:=Lib.splitB_all ⟨#[c]⟩ (gA4 1) _ _ _ rfl
set_option maxRecDepth 100000 in
theorem An (c:UInt8) (s:ByteArray) (hs:s.size≤4000000000):MF Tryz.prog 98 [.str s,.str ⟨#[c]⟩,.int .i64 0,.int .i64 (-1)] 1 (aRz (cj c s)):=by
 refine ⟨by kernel_rfl,fun σ w vs j hr hg=> ?_⟩;have hl:vs.length=4:=hr.1
 obtain ⟨v1,v2,v3,v4,rfl⟩: ∃a b c d,vs= [a,b,c,d]:=by
  rcases vs with _|⟨a,_|⟨b,_|⟨c,_|⟨d,_|⟨e,l⟩⟩⟩⟩⟩<;>simp at hl
  exact ⟨a,b,c,d,rfl⟩
 have J:Rel1 σ v1 (.str s):=hr.2 0 v1 _ rfl rfl;have P:Rel1 σ v2 (.str ⟨#[c]⟩):=hr.2 1 v2 _ rfl rfl;have R:Rel1 σ v3 (.int .i64 0):=hr.2 2 v3 _ rfl rfl;have T:Rel1 σ v4 (.int .i64 (-1)):=hr.2 3 v4 _ rfl rfl;cases J;cases P;cases R;cases T;have U:=Lib.countB_le ⟨#[c]⟩ (gA4 1) s.size s (gA4 _)
 have g: ∀w:World,Calls Tryz.prog 154 #[.string s,.string ⟨#[c]⟩] w fun e w' =>e= .returned (.int .i64 (Lib.countB s ⟨#[c]⟩))∧w' =w:=fun w=>by
  refine (Tryz.strings_Count_one s c w).mono ?_;rintro e w' ⟨rfl,rfl⟩;refine ⟨?_,rfl⟩;have:=wa c (s.data.toList.length+1) s.data.toList (Nat.lt_succ_self _);rw [show Lib.countB s ⟨#[c]⟩=Lib.countFrom [c] (s.data.toList.length+1) s.data.toList from rfl,this];rfl
 have r: ∀(x:ByteArray) (w:World),Calls Tryz.prog 104 #[.string x,.string ⟨#[c]⟩] w fun e w' =>e= .returned (.int .i64 (Lib.indexB x ⟨#[c]⟩))∧w' =w:=fun x w=>by
  refine (Tryz.strings_Index_one x c w).mono ?_;rintro e w' ⟨rfl,rfl⟩;refine ⟨?_,rfl⟩;rw [show Lib.indexB x ⟨#[c]⟩=Lib.index x.data.toList [c] from rfl,Lib.index_one]
 have hN:((cj c s).length:Int)=min (if (-1:Int)<0 then (Lib.countB s ⟨#[c]⟩:Int)+1 else-1) ((s.size:Int)+1):=by
  rw [if_pos (by decide),pS];omega
 refine (Any.strings_genSplit_core Tryz.lays221 (by kernel_rfl) s ⟨#[c]⟩ 0 (-1) (cj c s).length w (by omega) (gA4 1) (gB8 _) (fun x _ _=>r x _) (g w) (by decide) (by decide) hN).mono ?_;rintro e w' ⟨rfl,rfl⟩;have e1:Lib.splitB ⟨#[c]⟩ 0 ((cj c s).length-1) s=cj c s:=by rw [pS];rfl
 rw [e1];have i:Below w.heap.size w (w.alloc (.cells (Lib.cellsOf (cj c s) (cj c s).length) 9)):=(Below.refl _ _).alloc (gA4 _) _;have hne:0<(cj c s).length:=by rw [pS];omega
 refine ⟨σ,w.heap.size,_,by rw [bm],Ext.refl _ _,fun b q v C=>(i.cell (p:=⟨b,q,none⟩) (World.block_lt_of_cell? w _ (j _ _ _ C))).trans (j _ _ _ C),i,by omega,?_⟩;have e2:Lib.cellsOf (cj c s) (cj c s).length=((cj c s).map Value.string++ []).toArray:=by simp [Lib.cellsOf]
 rw [e2];refine FRowW.new j (gA4 _) (e:=9) ?_ ?_ ?_ (by simp) ?_ ?_
 ·exact Hn σ _
 ·intro q I
  simp only [aRz,List.mem_map] at I;obtain ⟨x,_,rfl⟩:=I;rfl
 ·simp [bm]
 ·simp
 ·rw [bm];exact gA4 _
theorem Jv (c:UInt8) (s:ByteArray) (j:s.size≤4000000000):AC Tryz.prog 52 [.str s,.str ⟨#[c]⟩] (.lst .any 1 (aRz (cj c s))):=by
 have h:=An c s j;refine kE Tryz.func52 ot ov fun E r=> ?_
 refine kW ?_;refine kQ [.f 1 (aRz (cj c s))] ?_;refine AK.open2 7 1000010 rfl (by omega) rfl (Ju _) fun i p g=> ?_
 refine AK.fz 1000010 rfl ?_;refine AK.weak (wO (L:= [(4,.lst .any 1 (aRz (cj c s)))]) (BL:= []) ⟨⟨_,rfl,.one (g.le rfl)⟩,trivial⟩ trivial rfl rfl (by exact trivial)) ?_;refine kW ?_;refine aR ⟨_,rfl,?_⟩;rfl
theorem wb (c:UInt8) (s:ByteArray) (g:s.size≤1000000):AC Tryz.prog 52 [.str s,.str ⟨#[c]⟩] (.lst .any 1 (aRz (cj c s))):=Jv c s (by omega)
theorem wc {c:UInt8} {s x:ByteArray} (h:x∈cj c s):x.size≤s.size:=by
 have key: ∀(k:Nat) (s:ByteArray),∀x∈Lib.splitB ⟨#[c]⟩ 0 k s,x.size≤s.size:=by
  intro k
  induction k with
  |zero=>intro s x g;simp [Lib.splitB] at g;subst g;exact gA4 _
  |succ k ih=>
   intro s x g;rw [Lib.splitB] at g;split at g
   ·simp at g;subst g;exact gA4 _
   ·rcases gB2 g with rfl|g
    ·rw [ByteArray.size_extract];omega
    ·refine gB7 (ih _ x g) ?_
     rw [ByteArray.size_extract];omega
 exact key _ _ _ h
theorem pT (c:UInt8) (s:ByteArray):(cj c s).length≤s.size+1:=by
 rw [pS];have:=Lib.countB_le ⟨#[c]⟩ (gA4 1) s.size s (gA4 _);omega
end
end Go.Proofs.YtbgflifmanjpjaaGreatDoor
