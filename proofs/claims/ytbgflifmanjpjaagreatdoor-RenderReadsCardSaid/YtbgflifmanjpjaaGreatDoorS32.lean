/- Part 32. -/
import Derived.Test.YtbgflifmanjpjaaGreatDoorS31
set_option linter.unusedSimpArgs false
set_option linter.unusedVariables false
namespace Go.Proofs.YtbgflifmanjpjaaGreatDoor
open Go.RowKit
def LH (ds:List (List Nat)):Nat→Nat→Nat→Bool
 |0,_,_=>false
 |n+1,j,i=>match ds[j]? with
  |some l=>l.any fun e=>Nat.beq e i||LH ds n e i
  |none=>false
theorem HM (g:Array Oper) (j:Nat):(cF g)[j]? =(g[j]?).map fun o=>(o.after.toList.filter fun e=>Region.binds .any e).map (·.on):=by
 rw [cF,gA8,Array.getElem?_toList]
theorem Gi (g:Array Oper): ∀(n j i:Nat),LH (cF g) n j i=vg g n j i
 |0,_,_=>rfl
 |n+1,j,i=>by
  unfold LH vg;rw [HM];cases g[j]? with
  |none=>rfl
  |some o=>
   simp only [Option.map_some];rw [List.any_map,List.any_filter,←Array.any_toList];congr 1;funext e;simp only [Function.comp];rw [Gi g n e.on i]
def Mh (ds:List (List Nat)) (S:List (GI×Option RS)) (listed:Array Bool) (i:Nat):Bool:=
 match S[i]? with
 |some (g,_)=>(List.range ds.length).all fun j=>Nat.beq j i||listed.getD j true||LH ds ds.length j i||(match S[j]? with
  |some (p,_)=>BB g p
  |none=>false)
 |none=>false
def HO (P:Program) (ds:List (List Nat)) (S:List (GI×Option RS)) (R:Fr→St→Prop):Nat→Array Bool→Fr→St→Prop
 |0,listed,fr,st=>match rdy ds listed with
  | []=>R fr st
  |_=>False
 |n+1,listed,fr,st=>match rdy ds listed with
  | []=>R fr st
  |l=>match l.find? (Mh ds S listed) with
   |some i=>match S[i]? with
    |none=>False
    |some (x,rs)=>match bj P x rs fr st with
     |none=>False
     |some (fr',st',p)=>p∧HO P ds S R n (listed.setIfInBounds i true) fr' st'
   |none=>K9 (fun i=>match S[i]? with
    |none=>False
    |some (x,rs)=>match bj P x rs fr st with
     |none=>False
     |some (fr',st',p)=>p∧HO P ds S R n (listed.setIfInBounds i true) fr' st') l
theorem kn {P:Program} {r:Array Oper} {S:List (GI×Option RS)} {R:Fr→St→Prop}: ∀(n:Nat) (listed:Array Bool) (fr:Fr) (st:St),ClosedL r listed→HO P (cF r) S R n listed fr st→D5 P r S R n listed fr st
 |0,listed,fr,st,_,h=>by
  unfold HO at h;split at h
  ·rename_i he
   refine ⟨List.eq_nil_iff_forall_not_mem.2 fun j I=> ?_,h⟩;have:=fW.2 I;rw [he] at this;cases this
  ·exact h.elim
 |n+1,listed,fr,st,J,h=>by
  unfold HO at h;split at h
  ·rename_i he
   refine ⟨fun _=>h,fun j I=> ?_⟩;have:=fW.2 I;rw [he] at this;cases this
  ·rename_i hne
   split at h
   ·rename_i i U
    have hir:=fW.1 (List.mem_of_find?_eq_some U);have g:=List.find?_some U;split at h
    ·exact h.elim
    ·rename_i x rs hS
     split at h
     ·exact h.elim
     ·rename_i fr' st' p hg
      unfold Mh at g;rw [hS] at g;simp only at g;refine vi hS n listed fr fr' st st' p J (fun j xj rj oj hSj hoj hji hun hno=> ?_) hir hg h.1 (kn n _ fr' st' (J.set hir) h.2)
      have I:j<(cF r).length:=by
       have:=(gC0 hoj).1;simpa [cF] using this
      have hz:(cF r).length=r.size:=by simp [cF]
      have C:=List.all_eq_true.1 g j (by simpa using I);rw [hSj,Gi,hz] at C;simp only [Bool.or_eq_true] at C;rcases C with ((C|C)|C)|C
      ·exact absurd (Nat.eq_of_beq_eq_true C) hji
      ·rw [hun] at C;cases C
      ·rw [hno] at C;cases C
      ·exact C
   ·refine ⟨fun h0=> ?_,fun j I=> ?_⟩
    ·exfalso
     refine hne (List.eq_nil_iff_forall_not_mem.2 fun j I=> ?_);have:=fW.1 I;rw [h0] at this;cases this
    ·have T:=vj h j (fW.2 I)
     split at T
     ·exact T.elim
     ·rename_i x rs hS
      split at T
      ·exact T.elim
      ·rename_i fr' st' p hg
       exact ⟨x,rs,fr',st',p,hS,hg,T.1,kn n _ fr' st' (J.set I) T.2⟩
theorem AK.regaE {P:Program} {E:Env} {Q:Exit→Fr→St→Prop} {k:List AItem} {fr:Fr} {st:St} (I:P.follows .mixedOrders=true) {l:List GI} {ds:List (List Nat)} (rs:List RS) (p:Fr) (s0:St) (hA:HO P ds (mkS l rs) (fun f s=>Weak f s p s0) ds.length (Array.replicate ds.length false) fr st) (h:AK P E Q k p s0):AK P E Q (.c (.rega l ds)::k) fr st:=by
 intro J mu c G R w g _ T;cases c with
 |region id i dr=>
  simp only [ah] at g;split at g
  ·rename_i l' hl
   split at g
   ·split at g<;>cases g
   ·split at g
    ·cases g
     refine wp_region_any I ?_;have U:(cF i).length=i.size:=by simp [cF]
     rw [U] at hA;refine fj (zM _ _) (po hl) J (fun f s G' a' w' hR g=> ?_) _ _ fr st G R _ (T.same ?_) (kn _ _ _ _ (fun j o _ r=>by simp [Array.getD_eq_getD_getElem?,Array.getElem?_replicate] at r;split at r<;>simp at r) hA)
     ·obtain ⟨G2,C⟩:=hR E G' a' w' g
      exact ⟨G2,p,s0,C,h⟩
     ·exact (Below.refl w.heap.size w).drew
    ·cases g
  ·cases g
 |cond x t e=>simp only [ah] at g;split at g<;>cases g
 |seq x y=>simp only [ah] at g;split at g<;>cases g
 |block id b=>simp only [ah] at g;split at g<;>cases g
 |loop b=>simp only [ah] at g;split at g<;>cases g
 |_=>cases g
abbrev mB (n:Int):List (Nat×List AV):= [(2000010,[.top,.int .i64 n,.top])]
theorem E7 (n:Int) (i:0<n) (j:n≤10000):MTK Tryz.prog 163 [] (mB n) [.np 2000010 0] [] (mB (n-1)) (.int .i64 0):=by
 refine MTK.enter Tryz.func163 kl km (by rfl) (by rfl) fun E p=> ?_
 show AK _ _ _ [.c dM] _ _;rw [dM];refine kW ?_;have g:decide (n=0)=false:=decide_eq_false (by omega);rw [g];refine kCf ?_;refine kW ?_;refine aR ⟨⟨_,rfl,rfl⟩,?_⟩;rw [aD (by omega) (by omega)];exact ⟨⟨_,rfl,rfl⟩,trivial⟩
abbrev dotX (k:List ByteArray):EX:= .mk 1 V.null ⟨#[]⟩ k []
abbrev getA (v x:V) (k:List ByteArray):Prop:=AC Tryz.prog 218 [(vA (v)),.lst .any 1 (aRz k)] (.tup [(vA (x)),.bool true])
theorem E8 (n:Int) (g:0<n) (i:n≤10000) (v x:V) (k:List ByteArray) (j:getA v x k):
  MTK Tryz.prog 165 [] (mB n) [.np 2000010 0,.agg (dotX k).row,(vA (v)),.top] [] (mB (n-1)) (.tup [(vA (x)),.int .i64 0]):=by
 have p:=E7 n g i;refine MTK.enter Tryz.func165 jo jp (by rfl) (by rfl) fun E r=> ?_
 show AK _ _ _ [.c dn] _ _;rw [dn];refine kW ?_;refine kQ [.k [2000010] [] (mB (n-1)) [] (.int .i64 0)] ?_;refine kW ?_;refine kCf ?_;refine kW ?_;refine kCf ?_;refine kW ?_;refine kCt ?_;refine kW ?_;refine kQ [.v (.tup [(vA (x)),.bool true])] ?_;refine kW ?_;exact aR ⟨⟨_,rfl,rfl⟩,⟨_,rfl,rfl⟩,trivial⟩
abbrev bB (g:AV) (t:ByteArray):List (Nat×List AV):= [(2800002,[g,.lst (.own 2800009 0) 1 (b6 t)])]
abbrev adF:AV:= .raw (.pointer none)
abbrev adU:AV:= .np 2800002 0
def adB:Bool→AV
 |true=>adF
 |false=>adU
theorem NP (d:Bool) (t:ByteArray):MTK Tryz.prog 217 [2800009] (bB (adB d) t) [.np 2800002 0] [2800009] (bB (adB d) t) (.int .i64 t.size):=by
 have hl:=ce t;cases d
 all_goals
  refine MTK.enter Tryz.func217 iK iL (by rfl) (by rfl) fun E g=> ?_
  show AK _ _ _ [.c cY] _ _;rw [cY];refine kW ?_;refine aR ⟨⟨_,rfl,?_⟩,⟨_,rfl,rfl⟩,trivial⟩;rw [hl];rfl
theorem Mi (d:Bool) (t s:ByteArray) (h:t.size+s.size≤65536):MTK Tryz.prog 164 [2800009] (bB (adB d) t) [.np 2800002 0,.str s] [2800009] (bB adU (t++s)) (.int .i64 0):=by
 have i:=NP d t;have j:=yd t s (adB d) (by cases d;exact .inr rfl;exact .inl rfl) (by omega);cases d with
 |true=>
  refine MTK.enter Tryz.func164 nZ n7 (by rfl) (by rfl) fun E g=> ?_
  show AK _ _ _ [.c gN] _ _;rw [gN];refine kW ?_;refine kQ [.k [2800002] [2800009] (bB adF t) [2800009] (.int .i64 t.size)] ?_;refine kW ?_;rw [aD (by omega) (by omega),show decide (((t.size:Int)+(s.size:Int))>65536)=false from decide_eq_false (by omega)];refine kCf ?_;refine kW ?_;refine kQ [.k [2800002] [2800009] (bB adU (t++s)) [2800009] (.tup [.int .i64 s.size,.raw .nilIface])] ?_;refine kW ?_;exact aR ⟨⟨_,rfl,rfl⟩,⟨_,rfl,rfl⟩,trivial⟩
 |false=>
  refine MTK.enter Tryz.func164 nZ n7 (by rfl) (by rfl) fun E g=> ?_
  show AK _ _ _ [.c gN] _ _;rw [gN];refine kW ?_;refine kQ [.k [2800002] [2800009] (bB adU t) [2800009] (.int .i64 t.size)] ?_;refine kW ?_;rw [aD (by omega) (by omega),show decide (((t.size:Int)+(s.size:Int))>65536)=false from decide_eq_false (by omega)];refine kCf ?_;refine kW ?_;refine kQ [.k [2800002] [2800009] (bB adU (t++s)) [2800009] (.tup [.int .i64 s.size,.raw .nilIface])] ?_;refine kW ?_;exact aR ⟨⟨_,rfl,rfl⟩,⟨_,rfl,rfl⟩,trivial⟩
abbrev mbB (n:Int) (g:AV) (t:ByteArray):List (Nat×List AV):= [(2000010,[.top,.int .i64 n,.top]),(2800002,[g,.lst (.own 2800009 0) 1 (b6 t)])]
abbrev textN (y:ByteArray):ND:= .mk 0 y EX.null ⟨#[]⟩ ⟨#[]⟩ [] []
abbrev outN (k:List ByteArray):ND:= .mk 1 ⟨#[]⟩ (dotX k) ⟨#[]⟩ ⟨#[]⟩ [] []
theorem E9 (d:Bool) (t y:ByteArray) (n:Int) (v:V) (g:0<n) (i:n≤10000) (h:t.size+y.size≤65536):
  MTK Tryz.prog 113 [2800009] (mbB n (adB d) t) [.np 2000010 0,.np 2800002 0,.agg (textN y).row,(vA (v)),.top] [2800009] (mbB (n-1) adU (t++y)) (.int .i64 0):=by
 have j:=E7 n g i;have p:=Mi d t y h;cases d
 all_goals
  refine MTK.enter Tryz.func113 eJ eK (by rfl) (by rfl) fun E r=> ?_
  show AK _ _ _ [.c bR] _ _;rw [bR];refine kW ?_;refine kQ [.k [2000010] [] (mB (n-1)) [] (.int .i64 0)] ?_;refine kW ?_;refine kCf ?_;refine kW ?_;refine kCt ?_;refine kW ?_;refine kQ [.k [2800002] [2800009] (bB adU (t++y)) [2800009] (.int .i64 0)] ?_;refine kW ?_;exact aR ⟨⟨_,rfl,rfl⟩,⟨_,rfl,rfl⟩,⟨_,rfl,rfl⟩,trivial⟩
theorem HP (d:Bool) (t:ByteArray) (n:Int) (v x:V) (k:List ByteArray) (o:ByteArray) (j:1<n) (g:n≤10000) (i:getA v x k) (p:AC Tryz.prog 166 [(vA (x))] (.str o)) (h:t.size+o.size≤65536):
  MTK Tryz.prog 113 [2800009] (mbB n (adB d) t) [.np 2000010 0,.np 2800002 0,.agg (outN k).row,(vA (v)),.top] [2800009] (mbB (n-1-1) adU (t++o)) (.int .i64 0):=by
 have r:=E7 n (by omega) g;have C:=E8 (n-1) (by omega) (by omega) v x k i;have I:=Mi d t o h;cases d
 all_goals
  refine MTK.enter Tryz.func113 eJ eK (by rfl) (by rfl) fun E J=> ?_
  show AK _ _ _ [.c bR] _ _;rw [bR];refine kW ?_;refine kQ [.k [2000010] [] (mB (n-1)) [] (.int .i64 0)] ?_;refine kW ?_;refine kCf ?_;refine kW ?_;refine kCf ?_;refine kW ?_;refine kCf ?_;refine kW ?_;refine kQ [.k [2000010] [] (mB (n-1-1)) [] (.tup [(vA (x)),.int .i64 0])] ?_;refine kW ?_;refine kCf ?_;refine kW ?_;refine kCt ?_;refine kW ?_;refine kQ [.v (.str o),.k [2800002] [2800009] (bB adU (t++o)) [2800009] (.int .i64 0)] ?_;refine kW ?_;exact aR ⟨⟨_,rfl,rfl⟩,⟨_,rfl,rfl⟩,⟨_,rfl,rfl⟩,trivial⟩
end Go.Proofs.YtbgflifmanjpjaaGreatDoor
