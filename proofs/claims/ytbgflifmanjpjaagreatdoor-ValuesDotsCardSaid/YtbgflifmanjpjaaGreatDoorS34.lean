/- Part 34. -/
import Derived.Test.YtbgflifmanjpjaaGreatDoorS33
import Derived.Lib.ItoaNum
set_option linter.unusedSimpArgs false
set_option linter.unusedVariables false
namespace Go.Proofs.YtbgflifmanjpjaaGreatDoor
section
open Go.RowKit
def bH (p:List ByteArray):List (List AV):=p.map fun s=> [.str s]
theorem cL (l:List ByteArray):(bH l).length=l.length:=List.length_map _
theorem vF {l:List ByteArray} {k:Nat} {s:ByteArray} (h:l[k]? =some s):(bH l)[k]? =some [.str s]:=by simp [bH,h]
def okW (c:UInt8):Bool:=decide (97≤c.toNat)&&decide (c.toNat≤122)||decide (65≤c.toNat)&&decide (c.toNat≤90)||decide (48≤c.toNat)&&decide (c.toNat≤57)||c.toNat==95||c.toNat==45
def wdB (s:ByteArray):Bool:=wg okW s&&(decide (1≤s.size)&&decide (s.size≤256))
theorem K7 (s:ByteArray) (I:s.size≤140737488355328):AC Tryz.prog 123 [.str s] (.bool (wdB s)):=by
 refine kE Tryz.func123 uI uJ fun E J=> ?_
 refine kW ?_;refine aJ (fun k:Nat=>(au [(0,.str s),(6,.int .i64 s.size),(7,.int .i64 k)],⟨ag [],fun _=>0⟩)) (fun k=>k≤s.size∧oK okW s k) (fun k=>s.size-k) 0 ⟨by omega,gi _ _⟩ (wO ⟨kI,kI,kI,trivial⟩ trivial rfl rfl) fun k ⟨P,j⟩=> ?_
 refine kW ?_;refine kC (fun hb=> ?_) fun hb=> ?_
 ·have g:k<s.size:=by simpa using hb
  refine kW ?_;refine kQ [] ?_;rw [show s.data.getD (k:Int).toNat 0=s[k] from jM g];refine kW ?_;refine kQ [] ?_;refine kC (fun hb=> ?_) fun hb=> ?_
  ·refine kW ?_
   refine aR ⟨_,rfl,?_⟩
   have r:okW s[k]=false:=by
    simp only [Bool.or_eq_true,gA9,Bool.not_eq_true',Bool.or_eq_false_iff,Bool.and_eq_false_iff,gB0,decide_eq_false_iff_not] at hb;simp only [okW,Bool.or_eq_false_iff,Bool.and_eq_false_iff,decide_eq_false_iff_not,beq_eq_false_iff_ne,ne_eq];omega
   rw [wdB,gk g r];rfl
  ·have ht:okW s[k]=true:=by
    simp only [Bool.or_eq_false_iff,Bool.and_eq_false_iff,Bool.not_eq_false',Bool.or_eq_true,gA9,gB0,decide_eq_false_iff_not] at hb;simp only [okW,Bool.or_eq_true,gA9,gB0,beq_iff_eq];omega
   refine kW ?_;exact AK.lp ⟨k+1,⟨by omega,gj j g ht⟩,wO ⟨kI,kI,kU,trivial⟩ trivial rfl rfl,by omega⟩
 ·have g:k=s.size:=by have:s.size≤k:=by simpa using hb
                      omega
  subst g;refine AK.exit rfl ?_;refine kW ?_;refine kQ [] ?_;refine kW ?_;refine aR ⟨_,rfl,?_⟩;show AV.bool _=AV.bool _;refine congrArg AV.bool ?_;rw [wdB,i7 j,Bool.eq_iff_iff];by_cases p:s=ByteArray.empty
  ·have R:=(sz0 s).1 p
   have i:s=⟨#[]⟩:=p;simp [i,ByteArray.size]
  ·have C:1≤s.size:=by have:=mt (sz0 s).2 p;omega
   have i: ¬s=⟨#[]⟩:=p;simp [p,C]
   try first|exact i|exact ⟨fun h=>by have:=h.2;omega,fun h=>⟨i,by omega⟩⟩
theorem HW (s:ByteArray) (g:s.size≤140737488355328):AC Tryz.prog 122 [.str s] (.bool (!wdB s)):=by
 have h:=K7 s g;refine kE Tryz.func122 oT oU fun E i=> ?_
 refine kW ?_;refine kQ [.v (.bool (wdB s))] ?_;refine kW ?_;refine aR ⟨_,rfl,?_⟩;rfl
def lY:List ByteArray→Nat→Int
 | [],_=> -1
 |s::l,k=>if wdB s=false then k else lY l (k+1)
theorem FH (l:List ByteArray) (k:Nat):lY l k= -1∧l.all wdB=true∨0≤lY l k∧l.all wdB=false:=by
 induction l generalizing k with
 |nil=>exact .inl ⟨rfl,rfl⟩
 |cons s l ih=>
  rw [lY];by_cases h:wdB s=false
  ·rw [if_pos h];exact .inr ⟨by omega,by simp [h]⟩
  ·rw [if_neg h]
   have j:wdB s=true:=by simpa using h
   rcases ih (k+1) with ⟨g,i⟩|⟨g,i⟩
   ·exact .inl ⟨g,by simp [j,i]⟩
   ·exact .inr ⟨g,by simp only [List.all_cons,i,Bool.and_false]⟩
theorem DL {l:List ByteArray} {k:Nat} {s:ByteArray} (h:l[k]? =some s):lY (l.drop k) k=if wdB s=false then (k:Int) else lY (l.drop (k+1)) (k+1):=by
 rw [List.drop_eq_getElem_cons (gA0 h).1,lY,(gA0 h).2]
theorem FI (l:List ByteArray) (hl:l.length≤2000000000000) (j: ∀s∈l,s.size≤140737488355328):AC Tryz.prog 177 [.lst .any 1 (bH l),.fn 122 []] (.int .i64 (lY l 0)):=by
 refine kE Tryz.func177 fu fw fun E C=> ?_
 refine kW ?_;refine aJ (fun k:Nat=>(au [(0,.lst .any 1 (bH l)),(1,.fn 122 []),(7,.int .i64 (bH l).length),(8,.int .i64 k)],⟨ag [],fun _=>0⟩)) (fun k=>k≤l.length∧lY (l.drop k) k=lY l 0) (fun k=>l.length-k) 0 ⟨by omega,rfl⟩ (wO ⟨kI,kI,kI,kI,trivial⟩ trivial rfl rfl) fun k ⟨I,hr⟩=> ?_
 refine kW ?_;refine kC (fun hb=> ?_) fun hb=> ?_
 ·have g:k<l.length:=by simpa [cL] using hb
  obtain ⟨s,hg⟩: ∃x,l[k]? =some x:=⟨_,gA1 g⟩
  have J:=HW s (j s (gA2 hg));rw [DL hg] at hr;have p:=cL l;refine kW ?_;refine kP [.c [.str s],.v (.bool (!wdB s))] ?_ ?_
  ·((repeat' apply aI)<;>first|exact kD|(intro r;refine ⟨?_,kG⟩;(repeat' apply aI)<;>first|exact kD|skip)|skip)
   exact vF hg
  refine kC (fun hb=> ?_) fun hb=> ?_
  ·have i:wdB s=false:=by simpa using hb
   rw [if_pos i] at hr;refine kW ?_;refine aR ⟨_,rfl,?_⟩;exact congrArg (AV.int _) hr
  ·have i: ¬wdB s=false:=by simpa using hb
   rw [if_neg i] at hr;refine kW ?_;exact AK.lp ⟨k+1,⟨by omega,hr⟩,wO ⟨kI,kI,kI,kU,trivial⟩ trivial rfl rfl,by omega⟩
 ·have g:k=l.length:=by have:l.length≤k:=by simpa [cL] using hb
                        omega
  subst g;refine AK.exit rfl ?_;refine kW ?_;refine aR ⟨_,rfl,?_⟩;rw [←hr,List.drop_length];rfl
theorem FJ (l:List ByteArray) (hl:l.length≤2000000000000) (j: ∀s∈l,s.size≤140737488355328):AC Tryz.prog 121 [.lst .any 1 (bH l),.fn 122 []] (.bool (!l.all wdB)):=by
 have h:=FI l hl j;refine kE Tryz.func121 eE eF fun E p=> ?_
 refine kW ?_;refine kQ [.v (.int .i64 (lY l 0))] ?_;refine kW ?_;refine aR ⟨_,rfl,?_⟩;refine congrArg AV.bool ?_;rcases FH l 0 with ⟨g,i⟩|⟨g,i⟩
 ·rw [g,i];rfl
 ·rw [i,Bool.not_false];exact decide_eq_true g
end
section
open Go.RowKit
theorem yg (c:UInt8): ∀(fuel:Nat) (l:List UInt8),l.length<fuel→Lib.countFrom [c] fuel l=l.count c
 |0,l,h=>by omega
 |fuel+1,l,h=>by
  rw [Lib.countFrom,Lib.index_one];rcases uO l c with ⟨g,p⟩|⟨i,g,p,r,C⟩
  ·rw [g,List.count_eq_zero_of_not_mem p]
   rfl
  ·have j: ¬((Lib.indexByte l c== -1)=true):=by rw [g];simp
   rw [if_neg j,g,yg c fuel _ (by simp;omega)]
   have e:l=l.take i++c::l.drop (i+1):=by
    have:=dJ r;rw [←this,List.take_append_drop]
   have I:l.count c=(l.take i++c::l.drop (i+1)).count c:=congrArg (List.count c) e;rw [I,List.count_append,List.count_eq_zero_of_not_mem C,List.count_cons_self];simp;omega
theorem FL (σ:Sg) (l:List ByteArray):RelL σ (l.map Value.string) (bH l).flatten:=by
 have e:(bH l).flatten=l.map AV.str:=by
  induction l with
  |nil=>rfl
  |cons x l ih=>simp [bH] at ih⊢;exact ih
 rw [e];refine ⟨by simp,fun j v a g i=> ?_⟩;rw [gA8] at g i;cases h:l[j]? with
 |none=>rw [h] at g;cases g
 |some x=>
  rw [h] at g i;cases g;cases i;exact .str x
def eH (s:ByteArray):List ByteArray:=Lib.splitB ⟨#[46]⟩ 0 (Lib.countB s ⟨#[46]⟩) s
theorem ph (s:ByteArray):(eH s).length=Lib.countB s ⟨#[46]⟩+1:=Lib.splitB_all _ (by decide) _ _ _ rfl
set_option maxRecDepth 100000 in
theorem BH (s:ByteArray) (hs:s.size≤1000000):MF Tryz.prog 98 [.str s,.str ⟨#[46]⟩,.int .i64 0,.int .i64 (-1)] 1 (bH (eH s)):=by
 refine ⟨by kernel_rfl,fun σ w vs j hr hg=> ?_⟩;have hl:vs.length=4:=hr.1
 obtain ⟨v1,v2,v3,v4,rfl⟩: ∃a b c d,vs= [a,b,c,d]:=by
  rcases vs with _|⟨a,_|⟨b,_|⟨c,_|⟨d,_|⟨e,l⟩⟩⟩⟩⟩<;>simp at hl
  exact ⟨a,b,c,d,rfl⟩
 have J:Rel1 σ v1 (.str s):=hr.2 0 v1 _ rfl rfl;have P:Rel1 σ v2 (.str ⟨#[46]⟩):=hr.2 1 v2 _ rfl rfl;have R:Rel1 σ v3 (.int .i64 0):=hr.2 2 v3 _ rfl rfl;have T:Rel1 σ v4 (.int .i64 (-1)):=hr.2 3 v4 _ rfl rfl;cases J;cases P;cases R;cases T;have U:=Lib.countB_le ⟨#[46]⟩ (by decide) s.size s (gA4 _)
 have g: ∀w:World,Calls Tryz.prog 154 #[.string s,.string ⟨#[46]⟩] w fun e w' =>e= .returned (.int .i64 (Lib.countB s ⟨#[46]⟩))∧w' =w:=fun w=>by
  refine (Tryz.strings_Count_one s 46 w).mono ?_;rintro e w' ⟨rfl,rfl⟩;refine ⟨?_,rfl⟩;have:=yg 46 (s.data.toList.length+1) s.data.toList (Nat.lt_succ_self _);rw [show Lib.countB s ⟨#[46]⟩=Lib.countFrom [46] (s.data.toList.length+1) s.data.toList from rfl,this];rfl
 have r: ∀(x:ByteArray) (w:World),Calls Tryz.prog 104 #[.string x,.string ⟨#[46]⟩] w fun e w' =>e= .returned (.int .i64 (Lib.indexB x ⟨#[46]⟩))∧w' =w:=fun x w=>by
  refine (Tryz.strings_Index_one x 46 w).mono ?_;rintro e w' ⟨rfl,rfl⟩;refine ⟨?_,rfl⟩;rw [show Lib.indexB x ⟨#[46]⟩=Lib.index x.data.toList [46] from rfl,Lib.index_one]
 have hN:((eH s).length:Int)=min (if (-1:Int)<0 then (Lib.countB s ⟨#[46]⟩:Int)+1 else-1) ((s.size:Int)+1):=by
  rw [if_pos (by decide),ph];omega
 refine (Any.strings_genSplit_core Tryz.lays221 (by kernel_rfl) s ⟨#[46]⟩ 0 (-1) (eH s).length w (by omega) (by decide) (by decide) (fun x c _=>r x _) (g w) (by decide) (by decide) hN).mono ?_;rintro e w' ⟨rfl,rfl⟩;have e1:Lib.splitB ⟨#[46]⟩ 0 ((eH s).length-1) s=eH s:=by rw [ph];rfl
 rw [e1];have i:Below w.heap.size w (w.alloc (.cells (Lib.cellsOf (eH s) (eH s).length) 9)):=(Below.refl _ _).alloc (gA4 _) _;have hne:0<(eH s).length:=by rw [ph];omega
 refine ⟨σ,w.heap.size,_,by rw [cL],Ext.refl _ _,fun b q v C=>(i.cell (p:=⟨b,q,none⟩) (World.block_lt_of_cell? w _ (j _ _ _ C))).trans (j _ _ _ C),i,by omega,?_⟩;have e2:Lib.cellsOf (eH s) (eH s).length=((eH s).map Value.string++ []).toArray:=by simp [Lib.cellsOf]
 rw [e2];refine FRowW.new j (gA4 _) (e:=9) ?_ ?_ ?_ (by simp) ?_ ?_
 ·exact FL σ _
 ·intro c I
  simp only [bH,List.mem_map] at I;obtain ⟨x,_,rfl⟩:=I;rfl
 ·simp [cL]
 ·simp
 ·rw [cL];exact gA4 _
theorem HX (l:List ByteArray):RowsOk 1 (bH l):=by
 refine ⟨by omega,fun c g=> ?_⟩;simp only [bH,List.mem_map] at g;obtain ⟨x,_,rfl⟩:=g;exact ⟨rfl,rfl⟩
theorem DM (s:ByteArray) (j:s.size≤1000000):AC Tryz.prog 52 [.str s,.str ⟨#[46]⟩] (.lst .any 1 (bH (eH s))):=by
 have h:=BH s j;refine kE Tryz.func52 gp gq fun E r=> ?_
 refine kW ?_;refine kQ [.f 1 (bH (eH s))] ?_;refine AK.open2 7 1000010 rfl (by omega) rfl (HX _) fun i p g=> ?_
 refine AK.fz 1000010 rfl ?_;refine AK.weak (wO (L:= [(4,.lst .any 1 (bH (eH s)))]) (BL:= []) ⟨⟨_,rfl,.one (g.le rfl)⟩,trivial⟩ trivial rfl rfl (by exact trivial)) ?_;refine kW ?_;refine aR ⟨_,rfl,?_⟩;rfl
def yh (s:ByteArray):List ByteArray×Int:=if 16≤(eH s).length then ([],5) else if (eH s).all wdB=true then (eH s,0) else ([],10)
theorem HY {s x:ByteArray} (h:x∈eH s):x.size≤s.size:=by
 have key: ∀(k:Nat) (s:ByteArray),∀x∈Lib.splitB ⟨#[46]⟩ 0 k s,x.size≤s.size:=by
  intro k
  induction k with
  |zero=>intro s x g;simp [Lib.splitB] at g;subst g;exact gA4 _
  |succ k ih=>
   intro s x g;rw [Lib.splitB] at g;split at g
   ·simp at g;subst g;exact gA4 _
   ·rcases gB2 g with rfl|g
    ·rw [ByteArray.size_extract];omega
    ·refine gB7 (ih _ x g) ?_
     rw [ByteArray.size_extract];omega
 exact key _ _ _ h
theorem BI (s:ByteArray) (j:s.size≤1000000):AC Tryz.prog 72 [.str s] (.tup [.lst .any 1 (bH (yh s).1),.int .i64 (yh s).2]):=by
 have h:=DM s j
 have hl:(eH s).length≤1000001:=by
  rw [ph];have:=Lib.countB_le ⟨#[46]⟩ (by decide) s.size s (gA4 _);omega
 have r:=FJ (eH s) (by omega) (fun x p=>by have:=HY p;omega);refine kE Tryz.func72 su sv fun E C=> ?_
 refine kW ?_;refine kQ [.v (.lst .any 1 (bH (eH s)))] ?_;refine kW ?_;refine kC (fun hb=> ?_) fun hb=> ?_
 ·have g:16≤(eH s).length:=by simp [cL] at hb;omega
  refine kW ?_;refine aR ⟨_,rfl,?_⟩;rw [yh,if_pos g];rfl
 ·have g: ¬16≤(eH s).length:=by simp [cL] at hb;omega
  refine kW ?_;refine kQ [.v (.bool (!(eH s).all wdB))] ?_;refine kC (fun hb=> ?_) fun hb=> ?_
  ·have i: ¬(eH s).all wdB=true:=by intro h;rw [h] at hb;cases hb
   refine kW ?_;refine aR ⟨_,rfl,?_⟩;rw [yh,if_neg g,if_neg i];rfl
  ·have i:(eH s).all wdB=true:=by
    cases h:(eH s).all wdB with
    |true=>rfl
    |false=>rw [h] at hb;cases hb
   refine kW ?_;refine aR ⟨_,rfl,?_⟩;rw [yh,if_neg g,if_pos i];rfl
def JF:Option (List UInt8×List UInt8)→V×Int
 |none=>(V.null,11)
 |some (a,b)=>if b= [] then (V.str ⟨a.toArray⟩,0) else (V.null,10)
def vG (s:ByteArray):V×Int:=if (dQ s ⟨#[34]⟩||dQ s ⟨#[39]⟩)=true then JF (unq s) else bi s
theorem FN (s:ByteArray) (C:s.size≤1000000):AC Tryz.prog 73 [.str s] (.tup [(vA ((vG s).1)),.int .i64 (vG s).2]):=by
 have I:=lN s ⟨#[34]⟩;have J:=lN s ⟨#[39]⟩;have P:=fT s C;have T:=uT s C;refine kE Tryz.func73 qb qc fun E U=> ?_
 refine kW ?_;refine kQ [.v (.bool (dQ s ⟨#[34]⟩)),.v (.bool (dQ s ⟨#[39]⟩))] ?_;refine kC (fun hb=> ?_) fun hb=> ?_
 ·have j:vG s=JF (unq s):=by rw [vG,if_pos hb]
  rw [j];generalize unq s=R at*;cases R with
  |none=>
   refine kW ?_;refine kQ [.v (qA none)] ?_;refine kW ?_;refine kQ [] ?_;refine kC (fun hb=> ?_) fun hb=> ?_
   ·simp at hb
   refine kW ?_;refine kC (fun hb=> ?_) fun hb=> ?_
   ·refine kW ?_
    refine aR ⟨_,rfl,?_⟩;rfl
   ·simp at hb
  |some p=>
   obtain ⟨a,b⟩:=p;have h5:=ec ⟨a.toArray⟩;refine kW ?_;refine kQ [.v (qA (some (a,b)))] ?_;refine kW ?_;refine kQ [] ?_;by_cases g:b= []
   ·subst g
    refine kC (fun hb=> ?_) fun hb=> ?_
    ·simp at hb
    refine kW ?_;refine kC (fun hb=> ?_) fun hb=> ?_
    ·simp at hb
    refine kW ?_;refine kQ [.v ((vA ((V.str ⟨a.toArray⟩))))] ?_;refine kW ?_;refine aR ⟨_,rfl,?_⟩;rfl
   ·have i: ¬(ByteArray.mk b.toArray)=ByteArray.mk #[]:=fun e=>g (by injection e with e;simpa using e)
    have r:JF (some (a,b))=(V.null,10):=by rw [JF,if_neg g]
    refine kC (fun hb=> ?_) fun hb=> ?_
    ·refine kW ?_
     refine kC (fun hb=> ?_) fun hb=> ?_
     ·refine kW ?_
      refine aR ⟨_,rfl,?_⟩;rw [r];rfl
     ·simp at hb
    ·exfalso
     simp [i] at hb
 ·have j:vG s=bi s:=by rw [vG,if_neg (by rw [show (dQ s ⟨#[34]⟩||dQ s ⟨#[39]⟩)=false from hb];decide)]
  rw [j];refine kW ?_;refine kQ [.v (.tup [(vA ((bi s).1)),.int .i64 (bi s).2])] ?_;refine kW ?_;refine aR ⟨_,rfl,?_⟩;rfl
end
section
open Go.RowKit
theorem JG (n:Nat): ∀v:V,v.size≤n→v.ord→v.size≤1000000→AC Tryz.prog 126 [(vA (v))] ((vA ((bq n v)))):=by
 induction n with
 |zero=>intro v h;have:=v.size_pos;omega
 |succ n ih=>
  intro v hn ho hsz;have hve:=v.size_eq;have hlm:=aU v.m;have g:=(V.ord_eq v).1 ho;have hM:=cJ [] (by simp [aw]);have hC:=gD v (by omega);refine kE Tryz.func126 qd qe fun E hE=> ?_
  refine kW ?_;refine kC (fun hb=> ?_) fun hb=> ?_
  ·have hk: ¬v.kind=5:=by simpa using hb
   have i:bq (n+1) v=v:=by rw [bq,if_neg hk]
   refine kW ?_;refine kQ [.v ((vA (v)))] ?_;refine kW ?_;refine aR ⟨_,rfl,?_⟩;rw [i];rfl
  ·have hk:v.kind=5:=by simpa using hb
   have i:bq (n+1) v=br (cq (bq n) v.m):=by rw [bq,if_pos hk]
   refine kW ?_;refine kQ [.v ((vA ((br []))))] ?_;refine kW ?_;refine aJ (fun k:Nat=>(au [(1,.ptr 1 0),(2,.ptr 2 0),(3,.ptr 3 0),(13,.lst .any 7 (ak v.m)),(14,.int .i64 (ak v.m).length),(15,.int .i64 k)],⟨ag [(1,(vC (v)),false),(2,[.int .i64 0,.bool false,.int .i64 0,.str ⟨#[]⟩,.lst .nil 6 [],.lst .nil 7 []],false),(3,(vC ((br (cq (bq n) (v.m.take k))))),false)],fun _=>0⟩)) (fun k=>k≤v.m.length) (fun k=>v.m.length-k) 0 (by omega) (wO ⟨kI,kI,kI,kI,kI,kI,trivial⟩ ⟨kJ,kJ,kJ,trivial⟩ rfl rfl) fun k hk=> ?_
   refine kW ?_;refine kC (fun hb=> ?_) fun hb=> ?_
   ·have r:k<v.m.length:=by simpa [aj] using hb
    obtain ⟨⟨y,x⟩,hg⟩: ∃x,v.m[k]? =some x:=⟨_,gA1 r⟩
    have hxs:=cm (gA2 hg);simp only at hxs;have P:=g.2.2.2 _ (gA2 hg);have R:=A8 (f:=bq n) hg;refine kW ?_;refine kP [.c (.str y::(vC (x)))] ?_ ?_
    ·((repeat' apply aI)<;>first|exact kD|(intro hgd;refine ⟨?_,kG⟩;(repeat' apply aI)<;>first|exact kD|skip)|skip)
     ·exact aQ hg
    refine kW ?_;refine kC (fun hb=> ?_) fun hb=> ?_
    ·have C: ¬x.kind=0:=by simpa using hb
     have T: ∀p∈v.m,(bq n p.2).ord∧(bq n p.2).size≤p.2.size:=fun p J=>by
      have:=cm (p:=p) J;exact rG n p.2 (by omega) (g.2.2.2 p J)
     have hro:(br (cq (bq n) (v.m.take k))).ord:=by
      refine bZ (o9 (List.Pairwise.sublist (List.take_sublist _ _) g.2.2.1)) fun q hq=> ?_
      obtain ⟨z,hz,e⟩:=jS hq;rw [e];exact (T _ (List.mem_of_mem_take hz)).1
     have hsz1:=rF (f:=bq n) (m:=v.m.take k) fun p J=>(T p (List.mem_of_mem_take J)).2
     have hsz2:=bu v.m k;have hsz3:=(rG n x (by omega) P).2
     have I:aq y (bq n x) (cq (bq n) (v.m.take k))=cq (bq n) (v.m.take k)++ [(y,bq n x)]:=by
      refine jN fun p J=> ?_
      obtain ⟨z,hz,_⟩:=jS J;obtain ⟨j,hj⟩:=List.getElem?_of_mem hz
      have U:j<k:=by
       have:=(gA0 hj).1;rw [gA7] at this;omega
      rw [List.getElem?_take,if_pos U] at hj;obtain ⟨q1,e1⟩:=gA0 hj;obtain ⟨q2,e2⟩:=gA0 hg;have:=List.pairwise_iff_getElem.1 g.2.2.1 j k q1 q2 U;rw [e1,e2] at this;exact this
     have hP:=eP (br (cq (bq n) (v.m.take k))) y (bq n x) hro (by rw [bo];omega);rw [show (br (cq (bq n) (v.m.take k))).m=cq (bq n) (v.m.take k) from rfl,I] at hP;have hI:=ih x (by omega) P (by omega);refine kW ?_;refine kQ [.v ((vA ((bq n x)))),.v ((vA ((br (cq (bq n) (v.m.take k)++ [(y,bq n x)])))))] ?_;refine kW ?_;exact AK.lp ⟨k+1,by omega,wO ⟨kI,kI,kI,kI,kI,kU,trivial⟩ ⟨kJ,kJ,⟨_,rfl,aD (by rw [R,if_neg C])⟩,trivial⟩ rfl rfl,by omega⟩
    ·have C:x.kind=0:=by simpa using hb
     refine kW ?_;exact AK.lp ⟨k+1,by omega,wO ⟨kI,kI,kI,kI,kI,kU,trivial⟩ ⟨kJ,kJ,⟨_,rfl,aD (by rw [R,if_pos C,List.append_nil])⟩,trivial⟩ rfl rfl,by omega⟩
   ·have r:k=v.m.length:=by have:v.m.length≤k:=by simpa [aj] using hb
                            omega
    subst r;rw [List.take_length];refine AK.exit rfl ?_;refine kW ?_;refine aR ⟨_,rfl,?_⟩;rw [i];rfl
theorem DN (s:ByteArray) (l:List ByteArray) (n:Nat) (h:n=(bH (s::l)).length):((bH (s::l)).take n).drop 1=bH l:=by
 subst h;rw [List.take_length];rfl
theorem FO (x:V) (hx:x.size≤1000000) (C:x.ord): ∀(l:List ByteArray) (v:V),l.length≤1000→(v=V.null∨v=br [])→l≠ []∨v=V.null→AC Tryz.prog 75 [(vA (v)),(vA (x)),.lst .any 1 (bH l)] ((vA ((zm x l)))):=by
 intro l
 induction l with
 |nil=>
  intro v _ j _;have hC:=gD x (by omega);refine kE Tryz.func75 mZ m5 fun E I=> ?_
  refine kW ?_;refine kC (fun hb=> ?_) fun hb=> ?_
  ·refine kW ?_
   refine kQ [.v ((vA (x)))] ?_;refine kW ?_;refine aR ⟨_,rfl,?_⟩;rfl
  ·simp [bH] at hb
 |cons s l ih=>
  intro v hl j _;have J:(bH (s::l)).length=l.length+1:=by simp [bH]
  have r:l.length≤1000:=by simp at hl;omega
  have i:v.ord:=by
   rcases j with rfl|rfl
   ·exact dF
   ·exact bZ List.Pairwise.nil (fun p h=>by cases h)
  have g:v.m= []:=by rcases j with rfl|rfl<;>rfl
  have P:v.size=1:=by rw [V.size_eq,g];rcases j with rfl|rfl<;>rfl
  have R:=cK v s i (by omega);rw [show bf s v.m=none by rw [g];rfl] at R;have T:=ih V.null r (.inl rfl) (.inr rfl);have U:=xO x l;have hP:=eP v s (zm x l) i (by omega);rw [show aq s (zm x l) v.m= [(s,zm x l)] by rw [g];rfl] at hP;refine kE Tryz.func75 mZ m5 fun E I=> ?_
  refine kW ?_;refine kC (fun hb=> ?_) fun hb=> ?_
  ·simp [bH] at hb<;>omega
  refine kW ?_;refine kQ [.c [.str s],.v (.tup [(vA (V.null)),.bool false])] ?_;refine kW ?_;refine kP [.c [.str s],.v ((vA ((zm x l)))),.v ((vA ((zm x (s::l)))))] ?_ ?_
  ·((repeat' apply aI)<;>first|exact kD|(intro hgd;refine ⟨?_,kG⟩;(repeat' apply aI)<;>first|exact kD|skip)|skip)
   ·rw [show List.drop (Int.toNat 1) (List.take ((bH (s::l)).length:Int).toNat (bH (s::l)))=bH l from DN s l _ (by simp)];exact T
  refine kW ?_;refine aR ⟨_,rfl,?_⟩;rfl
end
section
open Go.RowKit
def HZ (ds:List (List Nat)):Nat→Nat→Nat→Bool
 |0,_,_=>false
 |n+1,j,i=>match ds[j]? with
  |some l=>l.any fun e=>Nat.beq e i||HZ ds n e i
  |none=>false
theorem FP (g:Array Oper) (j:Nat):(bA g)[j]? =(g[j]?).map fun o=>(o.after.toList.filter fun e=>Region.binds .any e).map (·.on):=by
 rw [bA,gA8,Array.getElem?_toList]
theorem tp (g:Array Oper): ∀(n j i:Nat),HZ (bA g) n j i=nD g n j i
 |0,_,_=>rfl
 |n+1,j,i=>by
  unfold HZ nD;rw [FP];cases g[j]? with
  |none=>rfl
  |some o=>
   simp only [Option.map_some];rw [List.any_map,List.any_filter,←Array.any_toList];congr 1;funext e;simp only [Function.comp];rw [tp g n e.on i]
def Kk (ds:List (List Nat)) (S:List (GI×Option RS)) (listed:Array Bool) (i:Nat):Bool:=
 match S[i]? with
 |some (g,_)=>(List.range ds.length).all fun j=>Nat.beq j i||listed.getD j true||HZ ds ds.length j i||(match S[j]? with
  |some (p,_)=>ku g p
  |none=>false)
 |none=>false
def FQ (P:Program) (ds:List (List Nat)) (S:List (GI×Option RS)) (R:Fr→St→Prop):Nat→Array Bool→Fr→St→Prop
 |0,listed,fr,st=>match rdy ds listed with
  | []=>R fr st
  |_=>False
 |n+1,listed,fr,st=>match rdy ds listed with
  | []=>R fr st
  |l=>match l.find? (Kk ds S listed) with
   |some i=>match S[i]? with
    |none=>False
    |some (x,rs)=>match aS P x rs fr st with
     |none=>False
     |some (fr',st',p)=>p∧FQ P ds S R n (listed.setIfInBounds i true) fr' st'
   |none=>I3 (fun i=>match S[i]? with
    |none=>False
    |some (x,rs)=>match aS P x rs fr st with
     |none=>False
     |some (fr',st',p)=>p∧FQ P ds S R n (listed.setIfInBounds i true) fr' st') l
theorem j8 {P:Program} {r:Array Oper} {S:List (GI×Option RS)} {R:Fr→St→Prop}: ∀(n:Nat) (listed:Array Bool) (fr:Fr) (st:St),ClosedL r listed→FQ P (bA r) S R n listed fr st→CM P r S R n listed fr st
 |0,listed,fr,st,_,h=>by
  unfold FQ at h;split at h
  ·rename_i he
   refine ⟨List.eq_nil_iff_forall_not_mem.2 fun j I=> ?_,h⟩;have:=de.2 I;rw [he] at this;cases this
  ·exact h.elim
 |n+1,listed,fr,st,J,h=>by
  unfold FQ at h;split at h
  ·rename_i he
   refine ⟨fun _=>h,fun j I=> ?_⟩;have:=de.2 I;rw [he] at this;cases this
  ·rename_i hne
   split at h
   ·rename_i i U
    have hir:=de.1 (List.mem_of_find?_eq_some U);have g:=List.find?_some U;split at h
    ·exact h.elim
    ·rename_i x rs hS
     split at h
     ·exact h.elim
     ·rename_i fr' st' p hg
      unfold Kk at g;rw [hS] at g;simp only at g;refine uc hS n listed fr fr' st st' p J (fun j xj rj oj hSj hoj hji hun hno=> ?_) hir hg h.1 (j8 n _ fr' st' (J.set hir) h.2)
      have I:j<(bA r).length:=by
       have:=(gC0 hoj).1;simpa [bA] using this
      have hz:(bA r).length=r.size:=by simp [bA]
      have C:=List.all_eq_true.1 g j (by simpa using I);rw [hSj,tp,hz] at C;simp only [Bool.or_eq_true] at C;rcases C with ((C|C)|C)|C
      ·exact absurd (Nat.eq_of_beq_eq_true C) hji
      ·rw [hun] at C;cases C
      ·rw [hno] at C;cases C
      ·exact C
   ·refine ⟨fun h0=> ?_,fun j I=> ?_⟩
    ·exfalso
     refine hne (List.eq_nil_iff_forall_not_mem.2 fun j I=> ?_);have:=de.1 I;rw [h0] at this;cases this
    ·have T:=ud h j (de.2 I)
     split at T
     ·exact T.elim
     ·rename_i x rs hS
      split at T
      ·exact T.elim
      ·rename_i fr' st' p hg
       exact ⟨x,rs,fr',st',p,hS,hg,T.1,j8 n _ fr' st' (J.set I) T.2⟩
theorem AK.regaE {P:Program} {E:Env} {Q:Exit→Fr→St→Prop} {k:List AItem} {fr:Fr} {st:St} (I:P.follows .mixedOrders=true) {l:List GI} {ds:List (List Nat)} (rs:List RS) (p:Fr) (s0:St) (hA:FQ P ds (mkS l rs) (fun f s=>Weak f s p s0) ds.length (Array.replicate ds.length false) fr st) (h:AK P E Q k p s0):AK P E Q (.c (.rega l ds)::k) fr st:=by
 intro hd mu c G J w g _ R;cases c with
 |region id i dr=>
  simp only [ae] at g;split at g
  ·rename_i l' hl
   split at g
   ·split at g<;>cases g
   ·split at g
    ·cases g
     refine wp_region_any I ?_;have T:(bA i).length=i.size:=by simp [bA]
     rw [T] at hA;refine eT (tj _ _) (mW hl) hd (fun f s G' U w' hR g=> ?_) _ _ fr st G J _ (R.same ?_) (j8 _ _ _ _ (fun j o _ r=>by simp [Array.getD_eq_getD_getElem?,Array.getElem?_replicate] at r;split at r<;>simp at r) hA)
     ·obtain ⟨G2,C⟩:=hR E G' U w' g
      exact ⟨G2,p,s0,C,h⟩
     ·exact (Below.refl w.heap.size w).drew
    ·cases g
  ·cases g
 |cond x t e=>simp only [ae] at g;split at g<;>cases g
 |seq x y=>simp only [ae] at g;split at g<;>cases g
 |block id b=>simp only [ae] at g;split at g<;>cases g
 |loop b=>simp only [ae] at g;split at g<;>cases g
 |_=>cases g
abbrev chC (nm ver:ByteArray) (v:V):List AV:= [.str nm,.str ver,.int .i64 v.kind,.bool v.b,.int .i64 v.n,.str v.s,.lst .any 6 (aF v.l),.lst .any 7 (ak v.m),.lst .nil 2 [],.lst .nil 1 [],.raw (.map none)]
abbrev chS (c:Nat) (nm ver:ByteArray) (v:V):List (Nat×List AV):= [(c,chC nm ver v)]
def kNm:ByteArray:=⟨#[110,97,109,101]⟩
def sW:ByteArray:=⟨#[118,101,114,115,105,111,110]⟩
def mvK (key:ByteArray) (v:V):V:=(bf key v.m).getD V.null
def zM (v:V):Bool:= !decide ((mvK kNm v).kind=3)|| !decide ((mvK sW v).kind=3)|| !fD (mvK kNm v).s||decide ((mvK sW v).s=⟨#[]⟩)||decide (256<(mvK kNm v).s.size+(mvK sW v).s.size)
def bT (nm ver s:ByteArray):ByteArray×ByteArray×Int:=if (bL s).2≠0 then (nm,ver,(bL s).2) else if zM (bL s).1=true then (nm,ver,25) else ((mvK kNm (bL s).1).s,(mvK sW (bL s).1).s,0)
def ik (v0:V) (s:ByteArray):V×Int:=if (bL s).2≠0 then (v0,(bL s).2) else if (bL s).1.kind=0 then (v0,0) else if (bL s).1.kind≠5 then (v0,8) else ((bL s).1,0)
theorem pi {v:V} (h:v.good) (j:v.size≤4096) (key:ByteArray):(mvK key v).s.size≤65536:=by
 unfold mvK;cases g:bf key v.m with
 |none=>show (V.null).s.size≤_;decide
 |some x=>
  have i:=A9 g;exact FG ((V.good_eq _).1 (HV h i).2).2.1
set_option maxHeartbeats 4000000 in
theorem K8 (nm ver s:ByteArray) (v0:V):MS Tryz.prog 40 (chS 2000000 nm ver v0) [.np 2000000 0,.str s] (chS 2000000 (bT nm ver s).1 (bT nm ver s).2.1 v0) (.int .i64 (bT nm ver s).2.2):=by
 generalize g:bT nm ver s=R;unfold bT at g;have J:=pd s;obtain ⟨hg,j⟩:=vE s;generalize bL s=P at*;obtain ⟨v,e⟩:=P;dsimp only at g J hg j;have p:=cK v kNm hg.ord (by omega);have r:=cK v sW hg.ord (by omega);have T:=pi hg j kNm;have z2:=pi hg j sW;have U:=C8 (mvK kNm v).s (by omega);unfold zM at g;unfold mvK at g T z2 U;generalize (bf kNm v.m).getD V.null=x at*;generalize (bf sW v.m).getD V.null=y at*;refine MS.enter Tryz.func40 eI eJ (by rfl) (by rfl) fun E hE=> ?_
 show AK _ _ _ [.c bS] _ _;rw [bS];refine kW ?_;refine kQ [.v (.tup [(vA (v)),.int .i64 e])] ?_;refine kW ?_;refine kC (fun hb=> ?_) fun hb=> ?_
 ·have C:e≠0:=by simpa using hb
  rw [if_pos C] at g;subst g;refine kW ?_;exact aR ⟨⟨_,rfl,rfl⟩,⟨_,rfl,rfl⟩,trivial⟩
 have C: ¬e≠0:=by simpa using hb
 rw [if_neg C] at g;clear hb;refine kW ?_;refine kP [.v (.tup [(vA (x)),.bool (bf kNm v.m).isSome])] ?_ ?_
 ·((repeat' apply aI)<;>first|exact kD|(intro I;refine ⟨?_,kG⟩;(repeat' apply aI)<;>first|exact kD|skip)|skip)
  all_goals exact p
 refine kW ?_;refine kP [.v (.tup [(vA (y)),.bool (bf sW v.m).isSome])] ?_ ?_
 ·((repeat' apply aI)<;>first|exact kD|(intro I;refine ⟨?_,kG⟩;(repeat' apply aI)<;>first|exact kD|skip)|skip)
  all_goals exact r
 refine kW ?_;refine kQ [.v (.bool (fD x.s))] ?_
 have e3:IntKind.i64.wrap ((x.s.size:Int)+(y.s.size:Int))=((x.s.size+y.s.size:Nat):Int):=by
  rw [aG (by omega) (by omega)];omega
 have e4:decide (((x.s.size+y.s.size:Nat):Int)>256)=decide (256<x.s.size+y.s.size):=by
  rw [Bool.eq_iff_iff,decide_eq_true_iff,decide_eq_true_iff];omega
 rw [e3,e4];refine kC (fun hb=> ?_) fun hb=> ?_
 ·have i:(!decide (x.kind=3)|| !decide (y.kind=3)|| !fD x.s||decide (y.s=⟨#[]⟩)||decide (256<x.s.size+y.s.size))=true:=by
   rw [←hb]
  rw [if_pos i] at g;subst g;refine kW ?_;exact aR ⟨⟨_,rfl,rfl⟩,⟨_,rfl,rfl⟩,trivial⟩
 have i:(!decide (x.kind=3)|| !decide (y.kind=3)|| !fD x.s||decide (y.s=⟨#[]⟩)||decide (256<x.s.size+y.s.size))=false:=by
  rw [←hb]
 rw [if_neg (by rw [i];simp)] at g;subst g;clear hb;refine kW ?_;refine AK.weak (wN (L:= [(0,.np 2000000 0),(7,.ptr 7 0),(9,.ptr 9 0)]) (BL:= [(7,(vC (x)),false),(9,(vC (y)),false),(2000000,chC nm ver v0,false)]) ⟨kI,kI,kI,trivial⟩ ⟨kJ,kJ,kJ,trivial⟩ rfl rfl ⟨rfl,trivial⟩) ?_;refine AK.regaE fw0 [] (au []) ⟨ag [(2000000,chC x.s y.s v0,false)],fun _=>0⟩ ?_ ?_
 ·(repeat' (first|exact trivial|apply aI))
  all_goals exact wN (L:= []) trivial ⟨kJ,trivial⟩ rfl rfl ⟨rfl,trivial⟩
 refine kW ?_;exact aR ⟨⟨_,rfl,rfl⟩,⟨_,rfl,rfl⟩,trivial⟩
theorem LC (nm ver s:ByteArray) (v0:V):MS Tryz.prog 41 (chS 2000000 nm ver v0) [.np 2000000 0,.str s] (chS 2000000 nm ver (ik v0 s).1) (.int .i64 (ik v0 s).2):=by
 generalize g:ik v0 s=R;unfold ik at g;have r:=pd s;generalize bL s=P at*;obtain ⟨v,e⟩:=P;dsimp only at g r;refine MS.enter Tryz.func41 fh fi (by rfl) (by rfl) fun E C=> ?_
 show AK _ _ _ [.c b6] _ _;rw [b6];refine kW ?_;refine kQ [.v (.tup [(vA (v)),.int .i64 e])] ?_;refine kW ?_;refine kC (fun hb=> ?_) fun hb=> ?_
 ·have i:e≠0:=by simpa using hb
  rw [if_pos i] at g;subst g;refine kW ?_;exact aR ⟨⟨_,rfl,rfl⟩,⟨_,rfl,rfl⟩,trivial⟩
 have i: ¬e≠0:=by simpa using hb
 rw [if_neg i] at g;clear hb;refine kW ?_;refine kC (fun hb=> ?_) fun hb=> ?_
 ·have j:v.kind=0:=by simpa using hb
  rw [if_pos j] at g;subst g;refine kW ?_;exact aR ⟨⟨_,rfl,rfl⟩,⟨_,rfl,rfl⟩,trivial⟩
 have j: ¬v.kind=0:=by simpa using hb
 rw [if_neg j] at g;clear hb;refine kW ?_;refine kC (fun hb=> ?_) fun hb=> ?_
 ·have p:v.kind≠5:=by simpa using hb
  rw [if_pos p] at g;subst g;refine kW ?_;exact aR ⟨⟨_,rfl,rfl⟩,⟨_,rfl,rfl⟩,trivial⟩
 have p: ¬v.kind≠5:=by simpa using hb
 rw [if_neg p] at g;subst g;clear hb;refine kW ?_;exact aR ⟨⟨_,rfl,rfl⟩,⟨_,rfl,rfl⟩,trivial⟩
end
end Go.Proofs.YtbgflifmanjpjaaGreatDoor
