/- Part 31. -/
import Derived.Test.YtbgflifmanjpjaaGreatDoorS30
import Derived.Lib.UnsafeStr
set_option linter.unusedSimpArgs false
set_option linter.unusedVariables false
namespace Go.Proofs.YtbgflifmanjpjaaGreatDoor
section
open Go.RowKit
section
variable {P:Program} {σ:Sg} {w:World}
theorem LG {id:Nat} (hid:ew id=true) (hm:cC id=false) {r:TypeInfo} {v0:Value} (hi:P.info? bT=some r) (hz:r.zero=some v0) (hc:v0.cells= #[.pointer none,.slice none 0 0]):MOp P (.bld bT) [] [] [(id,[.raw (.pointer none),.lst .nil 1 []])] (.np id 0):=by
 refine ⟨fun σ w B vs hh hg C hinj hgl hat hr=> ?_⟩;have T:vs= []:=List.eq_nil_of_length_eq_zero hr.1;subst T;have U: ∀i g,B i≠some g:=fun i g h=>by have:=C i g h;simp [aw] at this
 have I:Below w.heap.size w (w.alloc (.cells #[.pointer none,.slice none 0 0] bT)):=(Below.refl _ _).alloc (gA4 _) _;refine ⟨_,w.alloc (.cells #[.pointer none,.slice none 0 0] bT),σ,npV id w.heap.size 0,fun i=>if i=id then some w.heap.size else none,?_,rfl,(Ext.refl _ _).toK _,fun b q v hv=> ?_,BelowK.of I _,fun i g h=> ?_,fun i j g h1 h2=> ?_,fun i cs J=> ?_,?_,fun i g h=> ?_,fun i g g' h=>absurd h (U i g)⟩
 ·show (do pure (Next.value (←Instr.alloc bT true (.tuple #[]))):Sem Next).run P w=_
  rw [dw hm];simp [Instr.alloc,zeroValue,typeInfo,hi,hz,newVar,newRow,hc];rfl
 ·have h0:=hh b q v hv
  exact (I.cell (p:=⟨b,q,none⟩) (World.block_lt_of_cell? w _ h0)).trans h0
 ·simp only at h
  split at h
  ·rename_i e;subst e;simp [aw]
  ·cases h
 ·simp only at h1 h2
  split at h1
  ·rename_i e1
   split at h2
   ·rename_i e2;exact e1.trans e2.symm
   ·cases h2
  ·cases h1
 ·simp only [List.mem_singleton,Prod.mk.injEq] at J
  obtain ⟨rfl,rfl⟩:=J;refine ⟨w.heap.size,bT,_,if_pos rfl,.mk hm (fun _=>rfl) (heap_alloc_new w _),.cons (.raw _ rfl) (.cons (.lst .nil 1 [] none 0 0 0 0 (fun _ _=> .nilIface) rfl (gA4 _) (fun h=>by cases h) (fun i c h=>by simp at h) (fun i j h=>by cases h) (fun i j c a h=>by simp at h) ⟨rfl,rfl,rfl⟩) .nil),fun j v a hv R=> ?_,fun j=> ?_⟩
  ·rcases j with _|_|j
   ·simp at R;subst R;exact trivial
   ·simp at R;subst R;exact trivial
   ·simp at R
  ·cases hs:σ w.heap.size j with
   |none=>rfl
   |some u=>have:=World.block_lt_of_cell? w _ (hh _ _ _ hs);simp at this
 ·exact ⟨w.heap.size,rfl,fun g' h=>by simp only [if_pos] at h;cases h;rfl⟩
 ·simp only at h
  split at h
  ·cases h;exact .inr (gA4 _)
  ·cases h
def b6 (s:ByteArray):List (List AV):=s.data.toList.map fun c=> [.int .u8 (c.toNat:Int)]
theorem ce (s:ByteArray):(b6 s).length=s.size:=by rw [b6,List.length_map,Array.length_toList];rfl
theorem wNz {s:ByteArray} {i:Nat} {c:List AV} (h:(b6 s)[i]? =some c): ∃n:Int,c= [.int .u8 n]∧(Lib.strCells s)[i]? =some (.int .u8 n):=by
 unfold b6 at h;rw [gA8] at h;cases hb:s.data.toList[i]? with
 |none=>rw [hb] at h;cases h
 |some b=>rw [hb] at h;cases h;exact ⟨_,rfl,by rw [Lib.strCells,gA8,hb];rfl⟩
theorem oQ {v:Value} {s:ByteArray} (h:Rel1 σ v (.lst .any 1 (b6 s))): ∃A cap b o,v= .slice A s.size cap∧s.size≤cap∧(0<s.size→A=some ⟨b,o,none⟩)∧ ∀(i:Nat) u,(Lib.strCells s)[i]? =some u→σ b (o+i)=some u:=by
 generalize hl:b6 s=l at h;cases h with
 |lst _ _ _ A n cap b o f hn hlen hA hsz I hr ht=>
  subst hl;rw [ce] at hn;subst hn;refine ⟨A,cap,b,o,rfl,hlen,hA,fun i u g=> ?_⟩
  have hi:i<s.size:=by
   have:=(gA0 g).1
   rwa [Lib.strCells_length] at this
  have j:i<(b6 s).length:=by rw [ce];exact hi
  obtain ⟨n,J,p⟩:=wNz (gA1 j);have r:=hr i 0 _ (.int .u8 n) (gA1 j) (by rw [J];rfl);have C:=I i 0 hi Nat.zero_lt_one;rw [Nat.mul_one,Nat.add_zero] at C;rw [C];rw [g] at p;cases p;generalize f i 0=P at r;cases r;rfl
theorem zc {g cap:Nat} {s:ByteArray} (p:s.size≤cap) (h: ∀(i:Nat) u,(Lib.strCells s)[i]? =some u→σ g i=some u):Rel1 σ (.slice (some ⟨g,0,none⟩) s.size cap) (.lst .any 1 (b6 s)):=by
 refine .lst .any 1 _ _ _ cap g 0 (fun i _=>(Lib.strCells s).getD i .nilIface) (ce s).symm p (fun _=>rfl) (fun i c p=> ?_) (fun i j hi P=> ?_) (fun i j c a p C=> ?_) trivial
 ·obtain ⟨n,rfl,_⟩:=wNz p;rfl
 ·have r:i<(Lib.strCells s).length:=by rw [Lib.strCells_length];exact hi
  have I:(Lib.strCells s)[i]? =some ((Lib.strCells s).getD i .nilIface):=by rw [List.getD_eq_getElem?_getD,gA1 r];rfl
  rw [show 0+i*1+j=i by omega];exact h i _ I
 ·obtain ⟨n,rfl,J⟩:=wNz p
  rcases j with _|j
  ·cases C
   rw [List.getD_eq_getElem?_getD,J];exact .int _ _
  ·cases C
theorem HL {A:Option Addr} {s:ByteArray} (g:s.size=0):Rel1 σ (.slice A 0 0) (.lst .any 1 (b6 s)):=by
 have hl:b6 s= []:=List.eq_nil_of_length_eq_zero (by rw [ce];exact g);rw [hl];exact .lst .any 1 [] A 0 0 0 0 (fun _ _=> .nilIface) rfl (gA4 _) (fun h=>by cases h) (fun i c h=>by simp at h) (fun i j h=>by cases h) (fun i j c a h=>by simp at h) trivial
def inV (v:Value) (b:Nat):Prop:= ∃n cap,v= .slice (some ⟨b,0,none⟩) n cap
def BufW (σ:Sg) (w:World) (v:Value) (n:Nat):Prop:=(n=0∧v= .slice none 0 0)∨ ∃g cap,v= .slice (some ⟨g,0,none⟩) n cap∧Nw σ w ⟨g,n,1,cap,true⟩
theorem bG (s x:ByteArray):(s++x).size=s.size+x.size:=ByteArray.size_append
theorem gi (s x:ByteArray):Lib.strCells (s++x)=Lib.strCells s++Lib.strCells x:=by unfold Lib.strCells;rw [ByteArray.data_append,Array.toList_append,List.map_append]
theorem EZ (hh:Holds σ w) {v:Value} {s x:ByteArray} (hr:Rel1 σ v (.lst .any 1 (b6 s))) (hown:BufW σ w v s.size) (hlim:s.size+x.size≤140737488355328) (t u:TypeId) (ht:P.underlying t=some (.slice 5)) (r:P.underlying u=some .string) {i:TypeInfo} (hi:P.info? 5=some i) (hz:i.zero=some (.int .u8 0)) (hs1:i.size=1) (hb1:i.bytes=1):
  ∃v' w' σ',(∀ty,(Builtin.append_ #[t,u] ty #[v,.string x]).run P w= .ok v' w')∧ExtK (inV v) σ σ' w.heap.size∧Holds σ' w' ∧BelowK (inV v) w w' ∧Rel1 σ' v' (.lst .any 1 (b6 (s++x)))∧BufW σ' w' v' (s++x).size∧(∀b,inV v' b→inV v b∨w.heap.size≤b):=by
 have newb: ∀(cap' :Nat) (olds:List Value),olds=Lib.strCells s→s.size+x.size≤cap' →(∀ty,(Builtin.append_ #[t,u] ty #[v,.string x]).run P w= .ok (.slice (some ⟨w.heap.size,0,none⟩) (s.size+x.size) cap') (w.drew.alloc (.cells (olds.toArray++(Lib.strCells x).toArray++Builtin.zeroCells (Value.int .u8 0).cells (cap' - (s.size+x.size))) 5)))→
   ∃v' w' σ',(∀ty,(Builtin.append_ #[t,u] ty #[v,.string x]).run P w= .ok v' w')∧ExtK (inV v) σ σ' w.heap.size∧Holds σ' w' ∧BelowK (inV v) w w' ∧Rel1 σ' v' (.lst .any 1 (b6 (s++x)))∧BufW σ' w' v' (s++x).size∧(∀b,inV v' b→inV v b∨w.heap.size≤b):=by
  intro cap' olds ho hcap C;subst ho;generalize hcs:(Lib.strCells s).toArray++(Lib.strCells x).toArray++Builtin.zeroCells (Value.int .u8 0).cells (cap' - (s.size+x.size))=cells at C
  have hcl:cells.toList=Lib.strCells (s++x)++(Builtin.zeroCells (Value.int .u8 0).cells (cap' - (s.size+x.size))).toList:=by
   rw [←hcs,gi];simp only [Array.toList_append]
  have hbl:Below w.heap.size w (w.drew.alloc (.cells cells 5)):=((Below.refl _ _).drew).alloc (gA4 _) _
  have hfr: ∀j,σ w.heap.size j=none:=fun j=>by
   cases hs:σ w.heap.size j with
   |none=>rfl
   |some u=>have:=World.block_lt_of_cell? w _ (hh _ _ _ hs);simp at this
  have R:(w.drew.alloc (.cells cells 5)).heap[w.heap.size]? =some (.cells cells 5 (0,0)):=heap_alloc_new w.drew _;have hsc:(Lib.strCells (s++x)).length=s.size+x.size:=by rw [Lib.strCells_length,bG]
  refine ⟨_,_,fun b q=>if b=w.heap.size then (Lib.strCells (s++x))[q]? else σ b q,C,⟨fun b q u r=> ?_,fun b q hb _=>if_neg (by omega)⟩,fun b q u r=> ?_,BelowK.of hbl _,?_,.inr ⟨w.heap.size,cap',by rw [bG],5,cells,R,⟨by rw [bG];exact hcap,fun _=>rfl⟩,⟨?_,fun u r=> ?_⟩,fun j T=> ?_⟩,fun b hb=> ?_⟩
  ·have hne:b≠w.heap.size:=fun e=>by rw [e,hfr] at r;cases r
   simp only [if_neg hne];exact r
  ·simp only at r
   split at r
   ·rename_i e
    subst e;rw [cell_of_row _ _ _ _ _ _ R,←Array.getElem?_toList,hcl,gC1 (gA0 r).1];exact r
   ·have h0:=hh b q u r
    exact (hbl.cell (p:=⟨b,q,none⟩) (World.block_lt_of_cell? w _ h0)).trans h0
  ·rw [←bG]
   exact zc (by rw [bG];exact hcap) fun i u r=>by simp only [if_true];exact r
  ·have hz1:(Value.int IntKind.u8 0).cells.size=1:=rfl
   show cells.size=cap' *1;rw [←Array.length_toList,hcl,gA5,hsc,Array.length_toList,size_zeroCells,hz1];omega
  ·rw [hcl] at r
   rcases gB5 r with r|r
   ·exact Lib.strCells_oneCell _ u r
   ·exact jP (by simp [Value.cells,Value.oneCell']) _ u r
  ·simp only [if_true]
   rw [List.getElem?_eq_none];rw [hsc];rw [bG] at T;simp only at T;omega
  ·obtain ⟨n,c,e⟩:=hb
   injection e with e
   injection e with e
   injection e with e
   exact .inr (by omega)
 rcases hown with ⟨h0,rfl⟩|⟨g,cap,rfl,e,U,hg,⟨hnc,hty⟩,⟨hcs,hone⟩,hfree⟩
 ·have hs0:Lib.strCells s= []:=List.eq_nil_of_length_eq_zero (by rw [Lib.strCells_length];exact h0)
  by_cases hm:x.size=0
  ·refine ⟨.slice none 0 0,w,σ,fun ty=> ?_,(Ext.refl _ _).toK _,hh,.refl _ _,HL (by rw [bG];omega),.inl ⟨by rw [bG];omega,rfl⟩,fun b hb=> .inl hb⟩
   have hf:=Lib.run_firstCells_string (P:=P) w 1 x;rw [hm] at hf;have hn:Lib.strCells x= []:=List.eq_nil_of_length_eq_zero (by rw [Lib.strCells_length];exact hm);simp [Builtin.append_,run_underlying ht,run_underlying r,sizeOf,typeInfo,hi,hs1,Builtin.lenOf,hm,hf]
  ·refine newb (grownCap w x.size 0 5) [] hs0.symm (by have:=grownCap_ge w x.size 0 5;omega) fun ty=> ?_
   have C:=run_append_nil_string (P:=P) w t u ty 5 i (.int .u8 0) ht r hi hz x (by omega) (by omega) (by rw [hb1];omega)
   have e1:(x.data.map fun b=>Value.int .u8 b.toNat)=(Lib.strCells x).toArray:=by
    apply Array.ext';simp [Lib.strCells]
   rw [e1] at C;rw [C,h0];simp
 ·have he:e=5:=hty rfl
  subst he;simp only at hg hnc hcs hone hfree;obtain ⟨A,cap2,b,o,hv,hle,hA,hσ⟩:=oQ hr;injection hv with hv1 _ hv2
  subst hv2
  have hold:U.toList.take s.size=Lib.strCells s:=by
   refine List.ext_getElem? fun j=> ?_
   rw [List.getElem?_take];by_cases T:j<s.size
   ·rw [if_pos T]
    have I:=hA (by omega);rw [←hv1] at I;injection I with I
    injection I with hb ho
    subst hb ho;have hj' :j<(Lib.strCells s).length:=by rw [Lib.strCells_length];exact T
    have h1:=hσ j _ (gA1 hj');rw [Nat.zero_add] at h1;have h2:=hh _ _ _ h1;rw [cell_of_row _ _ _ _ _ _ hg] at h2;rw [Array.getElem?_toList,h2,gA1 hj']
   ·rw [if_neg T,List.getElem?_eq_none (by rw [Lib.strCells_length];omega)]
  have hcl:U.toList.length=cap:=by simpa using hcs
  by_cases J:s.size+x.size≤cap
  ·have C:=fun ty=>Lib.run_append_room_string (P:=P) w t u ty 5 i ht r hi hs1 g s.size cap U hg x J (by omega)
   rw [hold] at C;generalize R:(Lib.strCells s++Lib.strCells x++U.toList.drop (s.size+x.size)).toArray=new at C;have hnl:new.toList=Lib.strCells (s++x)++U.toList.drop (s.size+x.size):=by rw [←R,gi]
   have hsc:(Lib.strCells (s++x)).length=s.size+x.size:=by rw [Lib.strCells_length,bG]
   have hset:(w.setRow g new).heap[g]? =some (.cells new 5 (0,0)):=setRow_heap w g U _ 5 _ hg;refine ⟨_,_,fun b q=>if b=g then (if q<s.size then σ g q else (Lib.strCells (s++x))[q]?) else σ b q,C,⟨fun b q u r=> ?_,fun b q hb hn=>if_neg fun e=>hn (by rw [e];exact ⟨_,_,rfl⟩)⟩,fun b q u r=> ?_,⟨rfl,rfl,rfl,by simp [World.setRow],fun k _ hn=>setRow_other w g k _ fun e=>hn (by rw [e];exact ⟨_,_,rfl⟩)⟩,?_,.inr ⟨g,cap,by rw [bG],5,new,hset,⟨by rw [bG];exact J,fun _=>rfl⟩,⟨?_,fun u r=> ?_⟩,fun j T=> ?_⟩,fun b hb=> .inl ?_⟩
   ·by_cases hbg:b=g
    ·subst hbg
     simp only [if_true];by_cases hq:q<s.size
     ·rw [if_pos hq];exact r
     ·rw [hfree q (by omega)] at r;cases r
    ·simp only [if_neg hbg]
     exact r
   ·simp only at r
    split at r
    ·rename_i e
     subst e;rw [cell_of_row _ _ _ _ _ _ hset];split at r
     ·rename_i hq
      have h1:=hh _ _ _ r;rw [cell_of_row _ _ _ _ _ _ hg,←Array.getElem?_toList] at h1;have h2:(Lib.strCells s)[q]? =some u:=by rw [←hold,List.getElem?_take,if_pos hq];exact h1
      rw [←Array.getElem?_toList,hnl,gi,List.append_assoc,gC1 (gA0 h2).1];exact h2
     ·rw [←Array.getElem?_toList,hnl,gC1 (gA0 r).1]
      exact r
    ·rename_i hne
     rw [World.cell?_of_block (w:=w) (a:=⟨b,q,none⟩) (setRow_other w g b _ hne)];exact hh b q u r
   ·rw [←bG]
    refine zc (by rw [bG];exact J) fun i u r=> ?_
    simp only [if_true];by_cases hq:i<s.size
    ·rw [if_pos hq]
     have I:=hA (by omega);rw [←hv1] at I;injection I with I
     injection I with hb ho
     subst hb ho;have:=hσ i u (by rw [gi,gC1 (by rw [Lib.strCells_length];exact hq)] at r;exact r);rw [Nat.zero_add] at this;exact this
    ·rw [if_neg hq];exact r
   ·show new.size=cap*1
    rw [←Array.length_toList,hnl,gA5,hsc,gA6,hcl];omega
   ·rw [hnl] at r
    rcases gB5 r with r|r
    ·exact Lib.strCells_oneCell _ u r
    ·exact hone u (List.mem_of_mem_drop r)
   ·simp only [if_true]
    rw [bG] at T;simp only at T;rw [if_neg (by omega),List.getElem?_eq_none (by rw [hsc];omega)]
   ·obtain ⟨n,c,e⟩:=hb
    injection e with e
    rw [e];exact ⟨_,_,rfl⟩
  ·refine newb (grownCap w (s.size+x.size) cap 5) (Lib.strCells s) rfl (grownCap_ge w _ _ _) fun ty=> ?_
   exact Lib.run_append_grow_string (P:=P) w t u ty 5 i (.int .u8 0) ht r hi hz ⟨g,0,none⟩ s.size cap (Lib.strCells s) (by rw [hs1,Lib.strCells_length];omega) (fun j u T=>by
    rw [Addr.add_lit,Nat.zero_add,cell_of_row _ _ _ _ _ _ hg,←Array.getElem?_toList];rw [←hold,List.getElem?_take] at T;split at T
    ·exact T
    ·cases T) x (by omega) (by omega) (by rw [hb1];exact growslice_fits (by omega) (by omega))
end
theorem rI {P:Program} {w:World} {g:Array Oper} {rest:List Oper} {o:Oper} {a:Act} {Q:Exit→Act→World→Prop} (i:o.guard=none) (j x:Operand) (t u:TypeId)
  (r:o.op= .call {callee:= .builtin .append,args:= #[j,x],argTypes:= #[t,u]}) {v:Value} {s:ByteArray} (C:a.eval j=v) (I:a.eval x= .string s) {p:Value} {w' :World} (hr: ∀ty,(Builtin.append_ #[t,u] ty #[v,.string s]).run P w= .ok p w')
  (h:wpList P g Q rest (a.put o.dst p) w'):wpList P g Q (o::rest) a w:=by
 refine wpList_plain i fun K J=> ?_
 unfold Oper.wp execOp;simp only [r,resolve,invoke,builtin,Sem.run_bind,Sem.run_pure,Result.andThen_ok,List.map_toArray,List.map_cons,List.map_nil,C,I,hr];exact J _ _ h
abbrev ptrB (b:Nat):Value:= .pointer (some ⟨b,0,none⟩)
theorem CX {w:World} {b:Nat} {p v:Value} (hb:w.heap[b]? =some (.cells #[p,v] bT (0,0))) (g:p= .pointer none∨p=ptrB b):
  ∃w1:World,Calls Tryz.prog 228 #[ptrB b] w (fun e w' =>e= .returned (.tuple #[])∧w' =w1)∧w1.heap[b]? =some (.cells #[ptrB b,v] bT (0,0))∧BelowK (fun k=>k=b) w w1∧w1.heap.size=w.heap.size:=by
 have c0:w.cell? ⟨b,0,none⟩=some p:=by rw [cell_of_row _ _ _ _ _ _ hb];rfl
 rcases g with rfl|rfl
 ·refine ⟨w.setCell ⟨b,0,none⟩ (ptrB b),Any.Builder_copyCheck_fresh {Tryz.layh167 with} Tryz.Builder_Extra_h.toX72 b w c0 (by simp [World.shape?,hb];rfl) (Lib.frozen_of_heap hb 0),?_,⟨rfl,rfl,rfl,by simp [World.setCell],fun k _ i=>Below.heap_setCell _ _ _ _ i⟩,by simp [World.setCell]⟩
  rw [heap_setCell_same w b 0 _ _ _ hb];rfl
 ·exact ⟨w,Any.Builder_copyCheck_used {Tryz.layh167 with} Tryz.Builder_Extra_h.toX72 b w c0,hb,.refl _ _,rfl⟩
theorem BufW.on {σ:Sg} {w w' :World} {v:Value} {n:Nat} (h:BufW σ w v n) (j: ∀b,inV v b→w'.heap[b]? =w.heap[b]?):BufW σ w' v n:=by
 rcases h with h|⟨g,cap,rfl,e,i,p,r⟩
 ·exact .inl h
 ·exact .inr ⟨g,cap,rfl,e,i,(j g ⟨_,_,rfl⟩).trans p,r⟩
set_option maxHeartbeats 2000000 in
set_option maxRecDepth 100000 in
theorem yc {w:World} {σ:Sg} {b:Nat} {p v:Value} {s x:ByteArray} (hh:Holds σ w) (hfb: ∀j,σ b j=none) (hb:w.heap[b]? =some (.cells #[p,v] bT (0,0))) (hp:p= .pointer none∨p=ptrB b) (hr:Rel1 σ v (.lst .any 1 (b6 s))) (hown:BufW σ w v s.size) (hvb: ¬inV v b) (hlim:s.size+x.size≤140737488355328):
  Calls Tryz.prog 174 #[ptrB b,.string x] w fun e w' =>e= .returned (.tuple #[.int .i64 x.size,.nilIface])∧ ∃g σ',w'.heap[b]? =some (.cells #[ptrB b,g] bT (0,0))∧ExtK (fun k=>k=b∨inV v k) σ σ' w.heap.size∧Holds σ' w' ∧BelowK (fun k=>k=b∨inV v k) w w' ∧Rel1 σ' g (.lst .any 1 (b6 (s++x)))∧BufW σ' w' g (s++x).size∧(∀k,inV g k→inV v k∨w.heap.size≤k)∧(∀j,σ' b j=none):=by
 obtain ⟨w1,hcc,hb1,i,hsz⟩:=CX hb hp;have hlt:b<w.heap.size:=(gC0 hb).1
 have hh1:Holds σ w1:=fun k q u hu=>by
  have C:k≠b:=fun e=>by rw [e,hfb] at hu;cases hu
  have h0:=hh k q u hu;exact (World.cell?_of_block (w:=w) (a:=⟨k,q,none⟩) (i.block k (World.block_lt_of_cell? w _ h0) C)).trans h0
 have I:BufW σ w1 v s.size:=hown.on fun k U=>by
  have C:k≠b:=fun e=>hvb (e▸U)
  by_cases hkl:k<w.heap.size
  ·exact i.block k hkl C
  ·rw [Array.getElem?_eq_none (by omega),Array.getElem?_eq_none (by omega)]
 obtain ⟨i0,hi,hz0,hz1,hz2⟩:=info_parts Tryz.Builder_Extra_h.infoByte;obtain ⟨g,w2,σ',hrun,hx2,hh2,r,hr2,ho2,J⟩:=EZ (P:=Tryz.prog) (x:=x) hh1 hr I hlim 118 9 Tryz.underlying118 Tryz.underlying9 hi hz0 hz1 hz2;have R:w2.heap[b]? =some (.cells #[ptrB b,v] bT (0,0)):=(r.block b (by omega) hvb).trans hb1;have hvb' : ¬inV g b:=fun e=>by rcases J b e with e|e;exact hvb e;omega
 have c0:w1.cell? ⟨b,0,none⟩=some (ptrB b):=by rw [cell_of_row _ _ _ _ _ _ hb1];rfl
 have c1:w1.cell? ⟨b,1,none⟩=some v:=by rw [cell_of_row _ _ _ _ _ _ hb1];rfl
 have d1:w2.cell? ⟨b,1,none⟩=some v:=by rw [cell_of_row _ _ _ _ _ _ R];rfl
 have f1:w2.frozen? ⟨b,1,none⟩=false:=Lib.frozen_of_heap R 1;have hv1:g.oneCell' =true:=hr2.one
 have hfin: ∀w3,w3=w2.setCell ⟨b,1,none⟩ g→ ∃g σ',w3.heap[b]? =some (.cells #[ptrB b,g] bT (0,0))∧ExtK (fun k=>k=b∨inV v k) σ σ' w.heap.size∧Holds σ' w3∧BelowK (fun k=>k=b∨inV v k) w w3∧Rel1 σ' g (.lst .any 1 (b6 (s++x)))∧BufW σ' w3 g (s++x).size∧(∀k,inV g k→inV v k∨w.heap.size≤k)∧(∀j,σ' b j=none):=by
  rintro w3 rfl;have hfb' : ∀j,σ' b j=none:=fun j=>(hx2.2 b j (by omega) hvb).trans (hfb j)
  have T: ∀k,k≠b→(w2.setCell ⟨b,1,none⟩ g).heap[k]? =w2.heap[k]? :=fun k U=>Below.heap_setCell _ _ _ _ U
  refine ⟨g,σ',?_,⟨hx2.1,fun k o U hn=>hx2.2 k o (by omega) fun e=>hn (.inr e)⟩,fun k q u hu=> ?_,?_,hr2,ho2.on fun k U=>T k fun e=>hvb' (e▸U),fun k U=>by rcases J k U with e|e;exact .inl e;exact .inr (by omega),hfb'⟩
  ·rw [heap_setCell_same w2 b 1 _ _ _ R]
   rfl
  ·have C:k≠b:=fun e=>by rw [e,hfb'] at hu;cases hu
   exact (World.cell?_of_block (w:=w2) (a:=⟨k,q,none⟩) (T k C)).trans (hh2 k q u hu)
  ·have e1:=r.size
   exact ⟨r.os.trans i.os,r.tape.trans i.tape,r.output.trans i.output,by simp [World.setCell];omega,fun k U hn=>(T k fun e=>hn (.inl e)).trans ((r.block k (by omega) fun e=>hn (.inr e)).trans (i.block k U fun e=>hn (.inl e)))⟩
 obtain ⟨A,cap,b0,o0,hv',_⟩:=oQ hr2;clear hr hown I hr2 ho2 hh hh1 hh2 hx2 r J i;subst hv'
 go_enter Tryz.func174,Tryz.ntmps174
 go_wp2_with ((go_at_call 228;refine (hcc).mono ?_))
 rintro e w1' ⟨rfl,rfl⟩
 go_wp2_with (at_builtin;refine rI rfl _ _ _ _ rfl rfl rfl hrun ?_)
 go_wp2
 go_ret2
 exact ⟨rfl,hfin _ (by rw [bG])⟩
theorem CY {σ:Sg} {w:World} {B:Nat→Option Nat} {R:Nat→Option RowI} {s:ByteArray} {ad:AV} (had:ad= .raw (.pointer none)∨ad= .np 2800002 0) (J:RowsW σ w B R [2800009]) (hat:BoxesAtK σ w B R [(2800002,[ad,.lst (.own 2800009 0) 1 (b6 s)])]):
  ∃b p v,B 2800002=some b∧(∀j,σ b j=none)∧w.heap[b]? =some (.cells #[p,v] bT (0,0))∧(p= .pointer none∨p=ptrB b)∧Rel1 σ v (.lst .any 1 (b6 s))∧BufW σ w v s.size∧(∀k,inV v k→ ∃r,R 2800009=some r∧r.g=k)∧ ¬inV v b:=by
 obtain ⟨g,t,vs,h1,U,P,h4,h5⟩:=hat _ _ (List.mem_singleton.2 rfl);have ht:=U.ty rfl rfl;subst ht;have U:=U.cells rfl;obtain ⟨l⟩:=vs;rcases l with _|⟨p,_|⟨v,_|⟨x,l⟩⟩⟩
 ·have:=P.1;simp at this
 ·have:=P.1;simp at this
 ·have hp:p= .pointer none∨p=ptrB g:=by
   rcases had with rfl|rfl
   ·left
    have:=P.2 0 p _ rfl rfl;cases this;rfl
   ·right
    obtain ⟨⟨g',C,i⟩,_⟩:=h4 0 p _ rfl rfl;have:=i g h1;subst this;rw [C];rfl
  have hv:Rel1 σ v (.lst .any 1 (b6 s)):=P.2 1 v _ rfl rfl;have htk:sU R v (.lst (.own 2800009 0) 1 (b6 s)):=(h4 1 v _ rfl rfl).2
  have key:(s.size=0∧v= .slice none 0 0)∨ ∃I cap,v= .slice (some ⟨I,0,none⟩) s.size cap∧R 2800009=some ⟨I,s.size,1,cap,true⟩:=by
   rcases htk with ⟨e0,A,C,i⟩|⟨I,cap,C,i⟩
   ·rw [ce] at e0
    rw [ce,e0,i rfl] at C;exact .inl ⟨e0,C⟩
   ·rw [ce] at C i
    exact .inr ⟨I,cap,C,i⟩
  have T: ∀k,inV v k→ ∃r,R 2800009=some r∧r.g=k:=by
   rintro k ⟨n,c,rfl⟩;rcases key with ⟨_,e⟩|⟨I,cap,e,i⟩
   ·cases e
   ·injection e with e
    injection e with e
    injection e with e
    exact ⟨_,i,e.symm⟩
  refine ⟨g,p,v,h1,h5,U,hp,hv,?_,T,fun hb=> ?_⟩
  ·rcases key with e|⟨I,cap,e,i⟩
   ·exact .inl e
   ·exact .inr ⟨I,cap,e,(J.at_ _ _ i).2.1⟩
  ·obtain ⟨r,C,i⟩:=T g hb
   exact (J.at_ _ _ C).2.2.2 2800002 (by rw [h1,i])
 ·have:=P.1;simp at this
theorem yd (s x:ByteArray) (ad:AV) (had:ad= .raw (.pointer none)∨ad= .np 2800002 0) (hlim:s.size+x.size≤140737488355328):
  MTK Tryz.prog 174 [2800009] [(2800002,[ad,.lst (.own 2800009 0) 1 (b6 s)])] [.np 2800002 0,.str x] [2800009] [(2800002,[.np 2800002 0,.lst (.own 2800009 0) 1 (b6 (s++x))])] (.tup [.int .i64 x.size,.raw .nilIface]):=by
 refine ⟨by kernel_rfl,fun σ w B R vs hh hg T hinj hgl hrw hat hr=> ?_⟩;obtain ⟨b,p,v,hB,hfb,hb,hp,hv,hown,hin,hvb⟩:=CY had hrw hat
 have hvs:vs= [ptrB b,.string x]:=by
  obtain ⟨hl,U⟩:=hr;rcases vs with _|⟨u0,_|⟨u1,_|⟨u2,l⟩⟩⟩
  ·simp at hl
  ·simp at hl
  ·obtain ⟨g',I,J⟩:=U 0 u0 _ rfl rfl
   have:=J b hB;subst this;have e3:RelP σ u1 (.str x):=U 1 u1 _ rfl rfl;have e4:Rel1 σ u1 (.str x):=e3;cases e4;rw [I];rfl
  ·simp at hl
 subst hvs;have hlt:b<w.heap.size:=(gC0 hb).1
 have hKB: ∀k,(k=b∨inV v k)→KBR B R k:=fun k P=>by
  rcases P with rfl|P
  ·exact .inl ⟨_,hB⟩
  ·obtain ⟨r,I,J⟩:=hin k P;exact .inr ⟨_,r,I,J⟩
 refine (yc hh hfb hb hp hv hown hvb hlim).mono ?_;rintro e w' ⟨rfl,v',σ',q1,q2,q3,q4,q5,q6,q7,q8⟩
 have hB1: ∀id g,B id=some g→id=2800002∧g=b:=fun id g h=>by
  have:=T id g h;simp [aw] at this;subst this;rw [hB] at h;cases h;exact ⟨rfl,rfl⟩
 have hv'b: ¬inV v' b:=fun e=>by rcases q7 b e with e|e;exact hvb e;omega
 have i: ∀k,inV v' k→ ¬ob k:=fun k P i=>by
  rcases q7 k P with e|e
  ·obtain ⟨r,I,J⟩:=hin k e
   exact (hrw.at_ _ _ I).2.2.1 (J▸i)
  ·have:=hg.lt i;omega
 refine ⟨σ',_,B,fun k=>if k=2800009 then (match v' with| .slice (some a) n cap=>some ⟨a.block,n,1,cap,true⟩|_=>none) else none,rfl,⟨q2.1,fun k o P hn=>q2.2 k o P fun e=>hn (hKB k e)⟩,q3,⟨q4.os,q4.tape,q4.output,q4.size,fun k P hn=>q4.block k P fun e=>hn (hKB k e)⟩,T,hinj,?_,?_,?_,fun id g h=> .inl (.inl ⟨id,h⟩),fun k r h=> ?_,fun id g g' h1 h2=>by rw [h1] at h2;exact Option.some.inj h2⟩
 ·refine ⟨fun k r h=> ?_,fun k k' r r' h1 h2 _=> ?_⟩
  ·split at h
   ·rename_i e
    subst e;rcases q6 with ⟨_,rfl⟩|⟨gb,cap,rfl,C⟩
    ·cases h
    ·cases h
     exact ⟨List.mem_singleton.2 rfl,C,i gb ⟨_,_,rfl⟩,fun id h=>hv'b (by obtain ⟨_,e⟩:=hB1 id _ h;exact e▸⟨_,_,rfl⟩)⟩
   ·cases h
  ·split at h1
   ·split at h2
    ·rename_i I J;rw [I,J]
    ·cases h2
   ·cases h1
 ·intro id cs hm
  rw [List.mem_singleton] at hm;cases hm;refine ⟨b,bT,_,hB,.mk rfl (fun _=>rfl) q1,.cons (.top _ rfl) (.cons q5 .nil),fun j u a hu U=> ?_,q8⟩;rcases j with _|_|j
  ·cases hu;cases U
   exact ⟨⟨b,rfl,fun g' h=>by rw [hB] at h;cases h;rfl⟩,trivial⟩
  ·cases hu;cases U
   refine ⟨trivial,?_⟩;rcases q6 with ⟨e0,rfl⟩|⟨gb,cap,rfl,C⟩
   ·exact .inl ⟨by rw [ce];exact e0,none,by rw [ce,e0],fun _=>rfl⟩
   ·exact .inr ⟨gb,cap,by rw [ce],by rw [ce];rfl⟩
  ·simp at hu
 ·refine ⟨[.int .i64 x.size,.nilIface],rfl,rfl,fun j u a hu U=> ?_⟩
  rcases j with _|_|j
  ·cases hu;cases U;exact Rel1.int _ _
  ·cases hu;cases U;exact Rel1.raw _ rfl
  ·simp at hu
 ·simp only at h
  split at h
  ·rcases q6 with ⟨_,rfl⟩|⟨gb,cap,rfl,C⟩
   ·cases h
   ·cases h
    rcases q7 gb ⟨_,_,rfl⟩ with e|e
    ·obtain ⟨r,I,J⟩:=hin gb e
     exact .inl (.inr ⟨_,r,I,J⟩)
    ·exact .inr e
  ·cases h
section
open Go.Shelf
variable {P:Program} {ρ:Ren}
set_option maxHeartbeats 2000000 in
set_option maxRecDepth 100000 in
theorem CZ (L:Lays.n169 P ρ) (X:Builder.Extra P ρ) (b g cap:Nat) (p:Value) (i:Array Value) (l:List UInt8) (w:World) (J:l≠ []) (C:w.heap[b]? =some (.cells #[p,.slice (some ⟨g,0,none⟩) l.length cap] (ρ.t 72) (0,0))) (hg:w.heap[g]? =some (.cells i (ρ.t 5) (0,0))) (T:l.length≤cap) (U:i.size=cap) (h63:l.length≤140737488355328)
  (r: ∀j x,l[j]? =some x→w.cell? ⟨g,j,none⟩=some (.int .u8 x.toNat)):
  Calls P (ρ.f 169) #[.pointer (some ⟨b,0,none⟩)] w fun e w' =>e= .returned (.string ⟨l.toArray⟩)∧w' =w.drew.freeze ⟨g,0,none⟩ l.length:=by
 have hl0:l.length≠0:=by simpa using J
 have c1:w.drew.cell? ⟨b,1,none⟩=some (.slice (some ⟨g,0,none⟩) l.length cap):=by
  have:w.drew.heap[b]? =some (.cells #[p,.slice (some ⟨g,0,none⟩) l.length cap] (ρ.t 72) (0,0)):=C;rw [Lib.cell_of_heap this];rfl
 have hSD:(Builtin.unsafeSliceData_ #[(ρ.t 37)] (ρ.t 127) #[.slice (some ⟨g,0,none⟩) l.length cap]).run P w.drew= .ok (.pointer (some ⟨g,0,none⟩)) w.drew:=
  Lib.run_unsafeSliceData_row _ _ _ _ _ _ (by omega)
 have hUS:(Builtin.unsafeString_ #[(ρ.t 127),(ρ.t 3)] (ρ.t 9) #[.pointer (some ⟨g,0,none⟩),.int .i64 l.length]).run P w.drew= .ok (.string ⟨l.toArray⟩) (w.drew.freeze ⟨g,0,none⟩ l.length):=by
  refine Lib.run_unsafeString_row w.drew (ρ.t 127) (ρ.t 3) (ρ.t 9) (ρ.t 5) L.t127 X.cellsByte g i.size (by have I:w.drew.heap[g]? =some (.cells i (ρ.t 5) (0,0)):=hg;simp [World.shape?,I]) l J (by omega) (by omega) ?_;intro j x hx;rw [Addr.add_lit,Nat.zero_add];exact r j x hx
 have mixed:=L.mixed;have t72:=L.t72;have a72:=L.a72;have z72:=L.z72;have v72:=L.v72;have u72:=run_underlying L.t72;have t70:=L.t70;have a70:=L.a70;have z70:=L.z70;have v70:=L.v70;have u70:=run_underlying L.t70;have t37:=L.t37;have a37:=L.a37;have z37:=L.z37;have v37:=L.v37;have u37:=run_underlying L.t37;have t127:=L.t127;have a127:=L.a127;have z127:=L.z127;have v127:=L.v127;have R:=run_underlying L.t127;have t3:=L.t3;have a3:=L.a3;have z3:=L.z3;have v3:=L.v3;have u3:=run_underlying L.t3;have t9:=L.t9;have a9:=L.a9;have z9:=L.z9;have v9:=L.v9;have u9:=run_underlying L.t9;have t5:=X.t5;have a5:=X.a5;have z5:=X.z5;have v5:=X.v5;have u5:=run_underlying X.t5
 go_enter L.f169,Body.n169_ntmps ρ
 go_wp2
 go_region_o
 all_goals (go_wp2;go_ret;exact ⟨rfl,rfl⟩)
end
theorem E0 (w:World) {g n k:Nat} (i:k≠g):(w.freeze ⟨g,0,none⟩ n).heap[k]? =w.heap[k]? :=by
 unfold World.freeze;split
 ·rfl
 ·simp only [Array.getElem?_modify]
  rw [if_neg (show¬g=k from fun e=>i e.symm)]
theorem C0 (w:World) (a:Addr) (n:Nat):(w.freeze a n).heap.size=w.heap.size:=by
 unfold World.freeze;split
 ·rfl
 ·simp
theorem C1 (w:World) (p:Addr) (n:Nat) (a:Addr):(w.freeze p n).cell? a=w.cell? a:=by
 unfold World.freeze;split
 ·rfl
 ·unfold World.cell?
  simp only [Array.getElem?_modify];by_cases g:p.block=a.block
  ·rw [if_pos g]
   cases w.heap[a.block]? with
   |none=>rfl
   |some o=>cases o<;>rfl
  ·rw [if_neg g]
theorem JZ {w:World} {σ:Sg} {b:Nat} {p v:Value} {s:ByteArray} (hh:Holds σ w) (hb:w.heap[b]? =some (.cells #[p,v] bT (0,0))) (hr:Rel1 σ v (.lst .any 1 (b6 s))) (J:BufW σ w v s.size) (hs:s.size≤140737488355328) (hvb: ¬inV v b):
  Calls Tryz.prog 62 #[ptrB b] w fun e w' =>e= .returned (.string s)∧Holds σ w' ∧BelowK (inV v) w w' ∧w'.heap[b]? =w.heap[b]? :=by
 have hlt:b<w.heap.size:=(gC0 hb).1
 have empty:s.size=0→ ∀(e:Ending) (w' :World),(e= .returned (.string ⟨#[]⟩)∧Below w.heap.size w w')→(e= .returned (.string s)∧Holds σ w' ∧BelowK (inV v) w w' ∧w'.heap[b]? =w.heap[b]?):=by
  rintro i e w' ⟨rfl,I⟩
  have:s=⟨#[]⟩:=by
   obtain ⟨⟨l⟩⟩:=s;have:l= []:=List.eq_nil_of_length_eq_zero i;rw [this]
  exact ⟨by rw [this],fun k q u hu=>by have i:=hh k q u hu;exact (I.cell (p:=⟨k,q,none⟩) (World.block_lt_of_cell? w _ i)).trans i,BelowK.of I _,I.block b hlt⟩
 rcases J with ⟨i,rfl⟩|⟨g,cap,rfl,e,P,hg,⟨hnc,hty⟩,⟨R,T⟩,hfree⟩
 ·exact (Any.Builder_String_nil Tryz.lays169 Tryz.Builder_Extra_169 w.heap.size b p w hb).mono (empty i)
 ·have he:e=5:=hty rfl
  subst he;simp only [Nat.mul_one] at hg hnc R T;by_cases i:s.size=0
  ·rw [i] at hb
   by_cases hc:cap=0
   ·subst hc
    exact (Any.Builder_String_noroom Tryz.lays169 Tryz.Builder_Extra_169 w.heap.size b g p P w (gA4 _) hb hg).mono (empty i)
   ·exact (Any.Builder_String_room Tryz.lays169 Tryz.Builder_Extra_169 w.heap.size b g cap p w hc hb).mono (empty i)
  ·obtain ⟨A,cap2,b2,o2,hv,hle,hA,hσ⟩:=oQ hr
   injection hv with hv1 _ hv2
   have r:=hA (by omega);rw [←hv1] at r;injection r with r
   injection r with hb' ho
   subst hb' ho;have U:s.data.toList.length=s.size:=Array.length_toList;have hne:b≠g:=fun e=>hvb (e▸⟨_,_,rfl⟩)
   refine (CZ Tryz.lays169 Tryz.Builder_Extra_169 b g cap p P s.data.toList w (fun e=>i (by rw [←U,e];rfl)) (by rw [U];exact hb) hg (by omega) R (by omega) fun j x hx=> ?_).mono ?_
   ·have h1:=hσ j (.int .u8 x.toNat) (by rw [Lib.strCells,gA8,hx];rfl)
    rw [Nat.zero_add] at h1;exact hh _ _ _ h1
   ·rintro e w' ⟨rfl,rfl⟩
    have C: ∀k,k≠g→(w.drew.freeze ⟨g,0,none⟩ s.data.toList.length).heap[k]? =w.heap[k]? :=fun k hk=>E0 w.drew hk
    refine ⟨rfl,fun k q u hu=> ?_,⟨by unfold World.freeze;split<;>rfl,by unfold World.freeze;split<;>rfl,by unfold World.freeze;split<;>rfl,Nat.le_of_eq (C0 w.drew _ _).symm,fun k _ hn=>C k fun e=>hn (e▸⟨_,_,rfl⟩)⟩,C b hne⟩;exact (C1 w.drew _ _ ⟨k,q,none⟩).trans (hh k q u hu)
theorem J0 (s:ByteArray) (U:AV) (had:U= .raw (.pointer none)∨U= .np 2800002 0) (i:s.size≤140737488355328):
  MTK Tryz.prog 62 [2800009] [(2800002,[U,.lst (.own 2800009 0) 1 (b6 s)])] [.np 2800002 0] [] [(2800002,[.top,.top])] (.str s):=by
 refine ⟨by kernel_rfl,fun σ w B R vs hh hg C I hgl hrw hat hr=> ?_⟩;obtain ⟨b,p,v,hB,hfb,hb,hp,hv,J,hin,hvb⟩:=CY had hrw hat
 have hvs:vs= [ptrB b]:=by
  obtain ⟨hl,P⟩:=hr;rcases vs with _|⟨u0,_|⟨u1,l⟩⟩
  ·simp at hl
  ·obtain ⟨g',e1,e2⟩:=P 0 u0 _ rfl rfl
   have:=e2 b hB;subst this;rw [e1];rfl
  ·simp at hl
 subst hvs;have hKB: ∀k,inV v k→KBR B R k:=fun k hk=>by obtain ⟨r,e1,e2⟩:=hin k hk;exact .inr ⟨_,r,e1,e2⟩
 refine (JZ hh hb hv J i hvb).mono ?_;rintro e w' ⟨rfl,q1,T,q3⟩;refine ⟨σ,_,B,fun _=>none,rfl,⟨.refl σ,fun _ _ _ _=>rfl⟩,q1,⟨T.os,T.tape,T.output,T.size,fun k hk hn=>T.block k hk fun e=>hn (hKB k e)⟩,C,I,⟨fun k r h=>(by cases h),fun k k' r r' h=>(by cases h)⟩,?_,Rel1.str s,fun id g h=> .inl (.inl ⟨id,h⟩),fun k r h=>(by cases h),fun id g g' h1 h2=>by rw [h1] at h2;exact Option.some.inj h2⟩;intro id cs hm;rw [List.mem_singleton] at hm;cases hm;have hp1:p.oneCell' =true:=by rcases hp with rfl|rfl<;>rfl
 exact ⟨b,bT,_,hB,.mk rfl (fun _=>rfl) (q3.trans hb),.cons (.top _ hp1) (.cons (.top _ hv.one) .nil),fun j u a hu P=>by
  rcases j with _|_|j
  ·cases P;exact ⟨trivial,trivial⟩
  ·cases P;exact ⟨trivial,trivial⟩
  ·simp at P,hfb⟩
end
section
set_option maxRecDepth 100000
set_option maxHeartbeats 20000000
def cz:List Nat:= [2000027,2000028,2000060,2000113,2000163,2000164,2000165,2000167,2000220,2000061,2000219,2000174,2000062,2000217]
noncomputable def fS:ACode:=bK Tryz.prog cz Tryz.f61
noncomputable def tV:AFn:=⟨1,7,fS,[.tmp 2]⟩
theorem oR:aq Tryz.prog cz Tryz.f61=some tV:=kk
theorem oS:ab Tryz.prog 61=true:=kk
noncomputable def dM:ACode:=bK Tryz.prog cz Tryz.f163
noncomputable def no:AFn:=⟨1,15,dM,[.tmp 2]⟩
theorem kl:aq Tryz.prog cz Tryz.f163=some no:=kk
theorem km:ab Tryz.prog 163=true:=kk
noncomputable def dn:ACode:=bK Tryz.prog cz Tryz.f165
noncomputable def lY:AFn:=⟨4,100,dn,[.cell 8 6 true,.tmp 9]⟩
theorem jo:aq Tryz.prog cz Tryz.f165=some lY:=kk
theorem jp:ab Tryz.prog 165=true:=kk
noncomputable def dq:ACode:=bK Tryz.prog cz Tryz.f60
noncomputable def lZ:AFn:=⟨5,30,dq,[.tmp 10]⟩
theorem jq:aq Tryz.prog cz Tryz.f60=some lZ:=kk
theorem jr:ab Tryz.prog 60=true:=kk
noncomputable def bR:ACode:=bK Tryz.prog cz Tryz.f113
noncomputable def nq:AFn:=⟨5,90,bR,[.tmp 10]⟩
theorem eJ:aq Tryz.prog cz Tryz.f113=some nq:=kk
theorem eK:ab Tryz.prog 113=true:=kk
noncomputable def gN:ACode:=bK Tryz.prog cz Tryz.f164
noncomputable def E3:AFn:=⟨2,14,gN,[.tmp 4]⟩
theorem nZ:aq Tryz.prog cz Tryz.f164=some E3:=kk
theorem n7:ab Tryz.prog 164=true:=kk
noncomputable def ye:ACode:=bK Tryz.prog cz Tryz.f166
noncomputable def yf:AFn:=⟨1,13,ye,[.tmp 2]⟩
theorem rJ:aq Tryz.prog cz Tryz.f166=some yf:=kk
theorem rK:ab Tryz.prog 166=true:=kk
noncomputable def cY:ACode:=bK Tryz.prog cz Tryz.f217
noncomputable def lm:AFn:=⟨1,8,cY,[.tmp 2]⟩
theorem iK:aq Tryz.prog cz Tryz.f217=some lm:=kk
theorem iL:ab Tryz.prog 217=true:=kk
noncomputable def oT:ACode:=bK Tryz.prog cz Tryz.f27
noncomputable def E4:AFn:=⟨4,39,oT,[.tmp 8,.tmp 9,.tmp 10]⟩
theorem yg:aq Tryz.prog cz Tryz.f27=some E4:=kk
theorem yh:ab Tryz.prog 27=true:=kk
noncomputable def E5:ACode:=bK Tryz.prog cz Tryz.f218
noncomputable def E6:AFn:=⟨2,27,E5,[.cell 4 6 true,.tmp 5]⟩
theorem yi:aq Tryz.prog cz Tryz.f218=some E6:=kk
theorem yj:ab Tryz.prog 218=true:=kk
end
end Go.Proofs.YtbgflifmanjpjaaGreatDoor
