/- Part 35. -/
import Derived.Test.YtbgflifmanjpjaaGreatDoorS34
set_option linter.unusedSimpArgs false
set_option linter.unusedVariables false
namespace Go.Proofs.YtbgflifmanjpjaaGreatDoor
section
open Go.RowKit
def JI (ds:List (List Nat)):Nat→Nat→Nat→Bool
 |0,_,_=>false
 |n+1,j,i=>match ds[j]? with
  |some l=>l.any fun e=>Nat.beq e i||JI ds n e i
  |none=>false
theorem F2 (g:Array Oper) (j:Nat):(cq g)[j]? =(g[j]?).map fun o=>(o.after.toList.filter fun e=>Region.binds .any e).map (·.on):=by
 rw [cq,gA8,Array.getElem?_toList]
theorem EH (g:Array Oper): ∀(n j i:Nat),JI (cq g) n j i=ua g n j i
 |0,_,_=>rfl
 |n+1,j,i=>by
  unfold JI ua;rw [F2];cases g[j]? with
  |none=>rfl
  |some o=>
   simp only [Option.map_some];rw [List.any_map,List.any_filter,←Array.any_toList];congr 1;funext e;simp only [Function.comp];rw [EH g n e.on i]
def Kh (ds:List (List Nat)) (S:List (GI×Option RS)) (listed:Array Bool) (i:Nat):Bool:=
 match S[i]? with
 |some (g,_)=>(List.range ds.length).all fun j=>Nat.beq j i||listed.getD j true||JI ds ds.length j i||(match S[j]? with
  |some (p,_)=>Ad g p
  |none=>false)
 |none=>false
def F3 (P:Program) (ds:List (List Nat)) (S:List (GI×Option RS)) (R:Fr→St→Prop):Nat→Array Bool→Fr→St→Prop
 |0,listed,fr,st=>match rdy ds listed with
  | []=>R fr st
  |_=>False
 |n+1,listed,fr,st=>match rdy ds listed with
  | []=>R fr st
  |l=>match l.find? (Kh ds S listed) with
   |some i=>match S[i]? with
    |none=>False
    |some (x,rs)=>match bf P x rs fr st with
     |none=>False
     |some (fr',st',p)=>p∧F3 P ds S R n (listed.setIfInBounds i true) fr' st'
   |none=>Jd (fun i=>match S[i]? with
    |none=>False
    |some (x,rs)=>match bf P x rs fr st with
     |none=>False
     |some (fr',st',p)=>p∧F3 P ds S R n (listed.setIfInBounds i true) fr' st') l
theorem jP {P:Program} {r:Array Oper} {S:List (GI×Option RS)} {R:Fr→St→Prop}: ∀(n:Nat) (listed:Array Bool) (fr:Fr) (st:St),ClosedL r listed→F3 P (cq r) S R n listed fr st→CL P r S R n listed fr st
 |0,listed,fr,st,_,h=>by
  unfold F3 at h;split at h
  ·rename_i he
   refine ⟨List.eq_nil_iff_forall_not_mem.2 fun j I=> ?_,h⟩;have:=fD.2 I;rw [he] at this;cases this
  ·exact h.elim
 |n+1,listed,fr,st,J,h=>by
  unfold F3 at h;split at h
  ·rename_i he
   refine ⟨fun _=>h,fun j I=> ?_⟩;have:=fD.2 I;rw [he] at this;cases this
  ·rename_i hne
   split at h
   ·rename_i i U
    have hir:=fD.1 (List.mem_of_find?_eq_some U);have g:=List.find?_some U;split at h
    ·exact h.elim
    ·rename_i x rs hS
     split at h
     ·exact h.elim
     ·rename_i fr' st' p hg
      unfold Kh at g;rw [hS] at g;simp only at g;refine uc hS n listed fr fr' st st' p J (fun j xj rj oj hSj hoj hji hun hno=> ?_) hir hg h.1 (jP n _ fr' st' (J.set hir) h.2)
      have I:j<(cq r).length:=by
       have:=(gC0 hoj).1;simpa [cq] using this
      have hz:(cq r).length=r.size:=by simp [cq]
      have C:=List.all_eq_true.1 g j (by simpa using I);rw [hSj,EH,hz] at C;simp only [Bool.or_eq_true] at C;rcases C with ((C|C)|C)|C
      ·exact absurd (Nat.eq_of_beq_eq_true C) hji
      ·rw [hun] at C;cases C
      ·rw [hno] at C;cases C
      ·exact C
   ·refine ⟨fun h0=> ?_,fun j I=> ?_⟩
    ·exfalso
     refine hne (List.eq_nil_iff_forall_not_mem.2 fun j I=> ?_);have:=fD.1 I;rw [h0] at this;cases this
    ·have T:=ud h j (fD.2 I)
     split at T
     ·exact T.elim
     ·rename_i x rs hS
      split at T
      ·exact T.elim
      ·rename_i fr' st' p hg
       exact ⟨x,rs,fr',st',p,hS,hg,T.1,jP n _ fr' st' (J.set I) T.2⟩
theorem AK.regaE {P:Program} {E:Env} {Q:Exit→Fr→St→Prop} {k:List AItem} {fr:Fr} {st:St} (I:P.follows .mixedOrders=true) {l:List GI} {ds:List (List Nat)} (rs:List RS) (p:Fr) (s0:St) (hA:F3 P ds (mkS l rs) (fun f s=>Weak f s p s0) ds.length (Array.replicate ds.length false) fr st) (h:AK P E Q k p s0):AK P E Q (.c (.rega l ds)::k) fr st:=by
 intro J mu c G R w g _ T;cases c with
 |region id i dr=>
  simp only [ag] at g;split at g
  ·rename_i l' hl
   split at g
   ·split at g<;>cases g
   ·split at g
    ·cases g
     refine wp_region_any I ?_;have U:(cq i).length=i.size:=by simp [cq]
     rw [U] at hA;refine eR (yq _ _) (oK hl) J (fun f s G' a' w' hR g=> ?_) _ _ fr st G R _ (T.same ?_) (jP _ _ _ _ (fun j o _ r=>by simp [Array.getD_eq_getD_getElem?,Array.getElem?_replicate] at r;split at r<;>simp at r) hA)
     ·obtain ⟨G2,C⟩:=hR E G' a' w' g
      exact ⟨G2,p,s0,C,h⟩
     ·exact (Below.refl w.heap.size w).drew
    ·cases g
  ·cases g
 |cond x t e=>simp only [ag] at g;split at g<;>cases g
 |seq x y=>simp only [ag] at g;split at g<;>cases g
 |block id b=>simp only [ag] at g;split at g<;>cases g
 |loop b=>simp only [ag] at g;split at g<;>cases g
 |_=>cases g
def kNm:ByteArray:=⟨#[110,97,109,101]⟩
def pv:ByteArray:=⟨#[118,101,114,115,105,111,110]⟩
def mvK (key:ByteArray) (v:V):V:=(bh key v.m).getD V.null
def jQ (v:V):Bool:= !decide ((mvK kNm v).kind=3)|| !decide ((mvK pv v).kind=3)|| !cK (mvK kNm v).s||decide ((mvK pv v).s=⟨#[]⟩)||decide (256<(mvK kNm v).s.size+(mvK pv v).s.size)
def fi (nm ver s:ByteArray):ByteArray×ByteArray×Int:=if (bi s).2≠0 then (nm,ver,(bi s).2) else if jQ (bi s).1=true then (nm,ver,25) else ((mvK kNm (bi s).1).s,(mvK pv (bi s).1).s,0)
def qP (v0:V) (s:ByteArray):V×Int:=if (bi s).2≠0 then (v0,(bi s).2) else if (bi s).1.kind=0 then (v0,0) else if (bi s).1.kind≠5 then (v0,8) else ((bi s).1,0)
theorem pw {v:V} (h:v.good) (j:v.size≤4096) (key:ByteArray):(mvK key v).s.size≤65536:=by
 unfold mvK;cases g:bh key v.m with
 |none=>show (V.null).s.size≤_;decide
 |some x=>
  have i:=AT g;exact F1 ((V.good_eq _).1 (Ic h i).2).2.1
end
section
set_option maxRecDepth 100000
set_option maxHeartbeats 20000000
def zj:List Nat:= []
noncomputable def iT:ACode:=bK Tryz.prog zj Tryz.f56
noncomputable def iU:AFn:=⟨2,8,iT,[.tmp 4]⟩
theorem gz:ar Tryz.prog zj Tryz.f56=some iU:=kk
theorem gA:ab Tryz.prog 56=true:=kk
noncomputable def fj:ACode:=bK Tryz.prog zj Tryz.f103
noncomputable def fk:AFn:=⟨2,19,fj,[.tmp 4]⟩
theorem eo:ar Tryz.prog zj Tryz.f103=some fk:=kk
theorem ep:ab Tryz.prog 103=true:=kk
end
section
set_option maxRecDepth 100000
set_option maxHeartbeats 20000000
def bk:List Nat:= [2000216,2000213,2000158,2000290,2000289,2000264,2000245,2000215,2000059,2000112,2000058,2000159,2000110,2000105]
noncomputable def vw:ACode:=bK Tryz.prog bk Tryz.f210
noncomputable def vz:AFn:=⟨1,21,vw,[.tmp 2]⟩
theorem px:ar Tryz.prog bk Tryz.f210=some vz:=kk
theorem py:ab Tryz.prog 210=true:=kk
noncomputable def zk:ACode:=bK Tryz.prog bk Tryz.f209
noncomputable def zm:AFn:=⟨1,13,zk,[.tmp 2]⟩
theorem sS:ar Tryz.prog bk Tryz.f209=some zm:=kk
theorem sT:ab Tryz.prog 209=true:=kk
noncomputable def zn:ACode:=bK Tryz.prog bk Tryz.f211
noncomputable def zo:AFn:=⟨1,33,zn,[.tmp 2]⟩
theorem sU:ar Tryz.prog bk Tryz.f211=some zo:=kk
theorem sV:ab Tryz.prog 211=true:=kk
noncomputable def dw:ACode:=bK Tryz.prog bk Tryz.f216
noncomputable def mJ:AFn:=⟨2,18,dw,[.cell 4 10 true]⟩
theorem jR:ar Tryz.prog bk Tryz.f216=some mJ:=kk
theorem jS:ab Tryz.prog 216=true:=kk
noncomputable def dx:ACode:=bK Tryz.prog bk Tryz.f213
noncomputable def mK:AFn:=⟨1,10,dx,[]⟩
theorem jT:ar Tryz.prog bk Tryz.f213=some mK:=kk
theorem jU:ab Tryz.prog 213=true:=kk
noncomputable def dy:ACode:=bK Tryz.prog bk Tryz.f158
noncomputable def mL:AFn:=⟨1,52,dy,[.tmp 2]⟩
theorem jV:ar Tryz.prog bk Tryz.f158=some mL:=kk
theorem jW:ab Tryz.prog 158=true:=kk
noncomputable def cV:ACode:=bK Tryz.prog bk Tryz.f290
noncomputable def lI:AFn:=⟨1,40,cV,[.tmp 2]⟩
theorem iV:ar Tryz.prog bk Tryz.f290=some lI:=kk
theorem iW:ab Tryz.prog 290=true:=kk
noncomputable def cF:ACode:=bK Tryz.prog bk Tryz.f289
noncomputable def ku:AFn:=⟨1,66,cF,[.cell 2 10 true]⟩
theorem ib:ar Tryz.prog bk Tryz.f289=some ku:=kk
theorem ic:ab Tryz.prog 289=true:=kk
noncomputable def qQ:ACode:=bK Tryz.prog bk Tryz.f160
noncomputable def qR:AFn:=⟨1,30,qQ,[.tmp 2,.tmp 3,.tmp 4]⟩
theorem mM:ar Tryz.prog bk Tryz.f160=some qR:=kk
theorem mN:ab Tryz.prog 160=true:=kk
noncomputable def BI:ACode:=bK Tryz.prog bk Tryz.f111
noncomputable def BJ:AFn:=⟨1,20,BI,[.tmp 2,.tmp 3,.tmp 4]⟩
theorem vB:ar Tryz.prog bk Tryz.f111=some BJ:=kk
theorem vD:ab Tryz.prog 111=true:=kk
noncomputable def zq:ACode:=bK Tryz.prog bk Tryz.f109
noncomputable def zr:AFn:=⟨1,16,zq,[.tmp 2,.tmp 3]⟩
theorem sW:ar Tryz.prog bk Tryz.f109=some zr:=kk
theorem sX:ab Tryz.prog 109=true:=kk
noncomputable def vE:ACode:=bK Tryz.prog bk Tryz.f212
noncomputable def vF:AFn:=⟨1,18,vE,[.tmp 2]⟩
theorem pz:ar Tryz.prog bk Tryz.f212=some vF:=kk
theorem pA:ab Tryz.prog 212=true:=kk
end
end Go.Proofs.YtbgflifmanjpjaaGreatDoor
