/- Part 3. -/
import Derived.Test.YtbgflifmanjpjaaGreatDoorS2
import Derived.Laws.Strings
import Derived.Laws.Strings2
import Derived.Laws.Strings3
import Derived.Laws.Small
import Derived.Laws.IdiomStrings
set_option linter.unusedSimpArgs false
set_option linter.unusedVariables false
namespace Go.Proofs.YtbgflifmanjpjaaGreatDoor
section
open Go.RowKit
abbrev Then (E:Env) (fr:Fr) (st:St) (K:Act→World→Prop):Prop:= ∀G a w,Conc E G fr st a w→K a w
section
variable {P:Program} {mu:List Nat} {E:Env} {G:Gho} {fr fr' :Fr} {st st' :St} {a:Act} {w:World} {o:Oper} {K:Act→World→Prop} {Q:Exit→Act→World→Prop} {p:Prop} {rs:Option RS} {i:AI} {gs:Bool}
theorem an (h:Conc E G fr st a w) {v:Value} (g:(execOp a.eval o).run P w= .ok (.value v) w) {d:Nat} (j:o.dst=some d) (i:d<E.n) {x:AV} (p:RelS G v x) (r:Then E (aG fr d x) st K):o.wp P a w K Q:=by
 unfold Oper.wp;rw [g,Oper.upon_value,j];exact r _ _ _ (h.put i p)
theorem FN (h:Conc E G fr st a w) {x:Operand} (g:o.op= .move x∨o.op= .assign x) (hi:aW P mu gs o=some i) (C:aj P i rs fr st=some (fr',st',p)) (T:p) (hn: ∀d,o.dst=some d→d<E.n) (J:Then E fr' st' K):o.wp P a w K Q:=by
 have r:(execOp a.eval o).run P w= .ok (.value (a.eval x)) w:=by rcases g with g|g<;>simp [execOp,g]
 have j:(match o.dst,be P o.type x with
  |some d,some x=>some (AI.mov d x)
  |_,_=>none)=some i:=by rcases g with g|g<;>(unfold aW at hi;rw [g] at hi;exact hi)
 split at j
 ·rename_i d y I hy
  cases j;simp only [aj] at C;split at C
  ·rename_i c R
   cases C;exact an h r I (hn d I) (h.ev hy R) J
  ·cases C
 ·cases j
theorem IJ (h:Conc E G fr st a w) {c x y:Operand} (ho:o.op= .pick c x y) (hi:aW P mu gs o=some i) (j:aj P i rs fr st=some (fr',st',p)) (hp:p) (hn: ∀d,o.dst=some d→d<E.n) (T:Then E fr' st' K):o.wp P a w K Q:=by
 unfold aW at hi;rw [ho] at hi;simp only at hi;split at hi
 ·rename_i d c' x' y' C hc U hy
  cases hi;simp only [aj] at j;split at j
  ·rename_i cb hcv
   have hb:=(h.ev hc hcv).bool;have r:(execOp a.eval o).run P w= .ok (.value (if cb then a.eval x else a.eval y)) w:=by simp [execOp,ho,hb,asBool]
   split at j
   ·have J:a.eval x= .bool true:=(h.ev (c:= .bool true) U rfl).bool
    split at j
    ·rename_i g e I
     cases j;refine an h r C (hn d C) (x:= .bool (cb||e)) ?_ T;cases cb with
     |true=>rw [if_pos rfl,J];exact ⟨.bool _,trivial⟩
     |false=>rw [if_neg (by simp)];exact (h.ev hy I).1 (hp rfl)
    ·rename_i e I
     cases j;refine an h r C (hn d C) (x:= .bool (cb||e)) ?_ T;cases cb with
     |true=>rw [if_pos rfl,J];exact ⟨.bool _,trivial⟩
     |false=>rw [if_neg (by simp)];exact h.ev hy I
    ·cases j
   ·split at j
    ·have R:a.eval y= .bool false:=(h.ev (c:= .bool false) hy rfl).bool
     split at j
     ·rename_i g e I
      cases j;refine an h r C (hn d C) (x:= .bool (cb&&e)) ?_ T;cases cb with
      |false=>rw [if_neg (by simp),R];exact ⟨.bool _,trivial⟩
      |true=>rw [if_pos rfl];exact (h.ev U I).1 (hp rfl)
     ·rename_i e I
      cases j;refine an h r C (hn d C) (x:= .bool (cb&&e)) ?_ T;cases cb with
      |false=>rw [if_neg (by simp),R];exact ⟨.bool _,trivial⟩
      |true=>rw [if_pos rfl];exact h.ev U I
     ·cases j
    ·cases j
  ·cases j
 ·cases hi
theorem FO (x y:Int):(x==y)=decide (x=y):=by rw [Bool.eq_iff_iff];simp
theorem DW {k k' :IntKind} (h:DT k k' =true):k=k' :=by
 unfold DT at h;have:=Nat.eq_of_beq_eq_true h;cases k<;>cases k' <;>first|rfl|(simp [IntKind.ctorIdx] at this)
theorem qr (x y:ByteArray):(x.toList==y.toList)=decide (x=y):=by
 rw [Bool.eq_iff_iff,beq_iff_eq,gB0,ByteArray.toList_eq,ByteArray.toList_eq];exact ⟨fun e=>ByteArray.ext (Array.ext' e),fun e=>by rw [e]⟩
theorem qs: ∀a b:List UInt8,(Op.bytesLess a b||a==b)= !Op.bytesLess b a
 | [],[]=>rfl
 | [],b::p=>by simp [Op.bytesLess]
 |a::as,[]=>by simp [Op.bytesLess]
 |a::as,b::p=>by
  have ih:=qs as p;simp only [Op.bytesLess];by_cases h:a=b
  ·subst h
   simp only [UInt8.lt_irrefl,decide_false,Bool.false_or,beq_self_eq_true,Bool.true_and,List.cons_beq_cons];exact ih
  ·have j:(a==b)=false:=by simpa using h
   have i:(b==a)=false:=by simpa using fun e=>h e.symm
   simp only [j,i,Bool.false_and,Bool.or_false,List.cons_beq_cons];by_cases g:a<b
   ·have: ¬b<a:=fun k=>UInt8.lt_irrefl _ (UInt8.lt_trans g k)
    simp [g,this]
   ·have:b<a:=by
     rcases UInt8.lt_or_lt_of_ne h with k|k
     ·exact absurd k g
     ·exact k
    simp [g,this]
theorem DX (op:BinOp) (k:IntKind) (x y:Int) {c:AV} {p:Prop} (h:DR op k x y=some (c,p)) (g:p) (t:TypeId) (w:World): ∃v,(binOp op t (.int k x) (.int k y)).run P w= .ok v w∧ ∀G,RelS G v c:=by
 cases op<;>simp only [DR,gB9,Prod.mk.injEq,reduceCtorEq] at h<;>(try obtain ⟨rfl,rfl⟩:=h)
 ·exact ⟨_,by simp [binOp,Op.intArith],fun G=>⟨.int _ _,trivial⟩⟩
 ·exact ⟨_,by simp [binOp,Op.intArith],fun G=>⟨.int _ _,trivial⟩⟩
 ·exact ⟨_,by simp [binOp,Op.intArith],fun G=>⟨.int _ _,trivial⟩⟩
 ·exact ⟨_,by simp [binOp,Op.intDiv,g],fun G=>⟨.int _ _,trivial⟩⟩
 ·exact ⟨_,by simp [binOp,Op.intDiv,g],fun G=>⟨.int _ _,trivial⟩⟩
 ·exact ⟨.int k (bits .and k x y),by simp [binOp,intBits_and],fun G=>⟨.int _ _,trivial⟩⟩
 ·exact ⟨.int k (bits .or k x y),by simp [binOp,intBits_or],fun G=>⟨.int _ _,trivial⟩⟩
 ·exact ⟨.int k (bits .xor k x y),by simp [binOp,intBits_xor],fun G=>⟨.int _ _,trivial⟩⟩
 ·exact ⟨.bool (decide (x=y)),by simp [binOp,Op.intCmp,FO],fun G=>⟨.bool _,trivial⟩⟩
 ·exact ⟨.bool (!decide (x=y)),by simp [binOp,Op.intCmp,bne,FO],fun G=>⟨.bool _,trivial⟩⟩
 ·exact ⟨.bool (decide (x<y)),by simp [binOp,Op.intCmp],fun G=>⟨.bool _,trivial⟩⟩
 ·exact ⟨.bool (decide (x≤y)),by simp [binOp,Op.intCmp],fun G=>⟨.bool _,trivial⟩⟩
 ·exact ⟨.bool (decide (x>y)),by simp [binOp,Op.intCmp],fun G=>⟨.bool _,trivial⟩⟩
 ·exact ⟨.bool (decide (x≥y)),by simp [binOp,Op.intCmp],fun G=>⟨.bool _,trivial⟩⟩
theorem DY (op:BinOp) (x y:ByteArray) {c:AV} {p:Prop} (h:DS op x y=some (c,p)) (g:p) (t:TypeId) (w:World): ∃v,(binOp op t (.string x) (.string y)).run P w= .ok v w∧ ∀G,RelS G v c:=by
 cases op<;>simp only [DS,gB9,Prod.mk.injEq,reduceCtorEq] at h<;>(try obtain ⟨rfl,rfl⟩:=h)
 ·refine ⟨.string (x++y),?_,fun G=>⟨.str _,trivial⟩⟩
  have: ¬((x.size+y.size:Nat):Int)>IntKind.i64.max:=by simp only [IntKind.max,IntKind.signed,IntKind.bits];simp;omega
  simp only [binOp,Op.stringOp,if_neg this,Sem.run_pure]
 ·exact ⟨.bool (decide (x=y)),by simp [binOp,Op.stringOp,qr],fun G=>⟨.bool _,trivial⟩⟩
 ·exact ⟨.bool (!decide (x=y)),by simp [binOp,Op.stringOp,qr],fun G=>⟨.bool _,trivial⟩⟩
 ·exact ⟨_,by simp only [binOp,Op.stringOp,Sem.run_pure],fun G=>⟨.bool _,trivial⟩⟩
 ·exact ⟨.bool (!Op.bytesLess y.toList x.toList),by simp only [binOp,Op.stringOp,Sem.run_pure,qs],fun G=>⟨.bool _,trivial⟩⟩
 ·exact ⟨.bool (Op.bytesLess y.toList x.toList),by simp only [binOp,Op.stringOp,Sem.run_pure,qs,Bool.not_not],fun G=>⟨.bool _,trivial⟩⟩
 ·exact ⟨_,by simp only [binOp,Op.stringOp,Sem.run_pure],fun G=>⟨.bool _,trivial⟩⟩
theorem Bp (op:BinOp) (x y:Bool) {c:AV} {p:Prop} (h:zz op x y=some (c,p)) (t:TypeId) (ht:zD P t=true) (w:World): ∃v,(binOp op t (.bool x) (.bool y)).run P w= .ok v w∧ ∀G,RelS G v c:=by
 have i:P.underlying t=some .bool:=by
  unfold zD at ht;split at ht
  ·assumption
  ·cases ht
 have g:(Op.equal t (.bool x) (.bool y)).run P w= .ok (x==y) w:=run_equal_bool w t x y i;cases op<;>simp only [zz,gB9,Prod.mk.injEq,reduceCtorEq] at h<;>(try obtain ⟨rfl,rfl⟩:=h)
 ·exact ⟨.bool (x==y),by simp [binOp,g],fun G=>⟨.bool _,trivial⟩⟩
 ·exact ⟨.bool (x !=y),by simp [binOp,g,bne],fun G=>⟨.bool _,trivial⟩⟩
theorem zI {op:BinOp} {t:TypeId} {x y:Operand} {u v:Value} (g:u.oneCell' =true) (hn:u≠ .nilIface) (w:World):(eqGuard op t x y u v).run P w= .ok () w:=by
 unfold eqGuard;cases op<;>simp<;>(cases u<;>cases v<;>simp_all [Value.oneCell'])
theorem zJ {σ:Sg}: ∀{vs us:List Value} {cs:List AV},RelL σ vs (cs.map AV.unown)→uJ cs=some us→vs=us
 | [],us,[],h,g=>by cases g;rfl
 | [],_,_::_,h,_=>by have:=h.1;simp at this
 |_::_,_,[],h,_=>by have:=h.1;simp at this
 |v::vs,us,c::cs,h,g=>by
  unfold uJ at g;split at g
  ·rename_i u p j i
   cases g;have r:=h.head;rw [zJ h.tail i];cases c<;>simp only [Mc,reduceCtorEq] at j<;>cases j<;>cases r<;>rfl
  ·cases g
theorem Bq {op:BinOp} {t:TypeId} {neg:Bool} (h:uM P op t=some neg):op=lD neg:=by
 unfold uM at h;split at h
 ·split at h
  ·cases h;rfl
  ·cases h
 ·split at h
  ·cases h;rfl
  ·cases h
 ·cases h
theorem zK {t:TypeId} {x:Operand} {x' :Opd} {u:Value} (i:be P t x=some x') (j:x'.ev fr=some (.raw u)) (p:x'.isK=true):isC x=true:=by
 cases x with
 |const v=>rfl
 |tmp n=>cases i;cases p
 |func f=>cases i;cases j
 | «global» g=>cases i
theorem MD {t:TypeId} {x y:Operand} {x' g:Opd} {u v:Value} (j:be P t x=some x') (p:x'.ev fr=some (.raw u)) (hy:be P t y=some g) (r:g.ev fr=some (.raw v)) (i:(x'.isK||g.isK)=true):(isC x||isC y)=true:=by
 rw [Bool.or_eq_true] at i⊢;exact i.imp (zK j p) (zK hy r)
theorem KP (h:Conc E G fr st a w) {op:BinOp} {t t' :TypeId} {x y:Operand} (U:o.op= .binOp op t x y t') (hi:aW P mu gs o=some i) (g:aj P i rs fr st=some (fr',st',p)) (R:p) (hn: ∀d,o.dst=some d→d<E.n) (hk:Then E fr' st' K):o.wp P a w K Q:=by
 unfold aW at hi;rw [U] at hi;simp only at hi;split at hi
 ·rename_i d x' y' I hx hy
  split at hi
  ·rename_i neg hneg
   cases hi;have hop:=Bq hneg;subst hop;simp only [aj] at g;split at g
   ·rename_i cs ds J C
    obtain ⟨us,T,r1,_⟩:=h.ev hx J;obtain ⟨vs,e2,r2,_⟩:=h.ev hy C;split at g
    ·rename_i us' vs' hfu hfv
     cases g;have:=zJ r1 hfu;subst this;have:=zJ r2 hfv;subst this;obtain ⟨k1,k2⟩:=R w x y;exact an h (by simp only [execOp,U,T,e2,Sem.run_bind,k1,Result.andThen_ok,k2];exact Sem.run_pure ..) I (hn d I) (by exact ⟨.bool _,trivial⟩) hk
    ·cases g
   ·rename_i u' v' J C
    have T:a.eval x=u' :=(h.ev hx J).raw;have e2:a.eval y=v' :=(h.ev hy C).raw;split at g
    ·split at g
     ·rename_i j
      cases g;obtain ⟨k1,k2⟩:=R w x y (MD hx J hy C j);exact an h (by simp only [execOp,U,T,e2,Sem.run_bind,k1,Result.andThen_ok,k2];exact Sem.run_pure ..) I (hn d I) (by exact ⟨.bool _,trivial⟩) hk
     ·cases g
    ·cases g
   ·rename_i id0 of0 v' J C
    obtain ⟨_,_,g0,T,_⟩:=h.ev hx J;have e2:a.eval y=v' :=(h.ev hy C).raw;split at g
    ·rename_i hnq j hmp
     cases g;rw [dw hmp] at T;have hcc:(isC x||isC y)=true:=by rw [zK hy C j,Bool.or_true]
     obtain ⟨k1,k2⟩:=R g0 of0 w x y hcc;refine an h (by simp only [execOp,U,T,e2,Sem.run_bind,k1,Result.andThen_ok,k2];exact Sem.run_pure ..) I (hn d I) (by cases neg<;>exact ⟨.bool _,trivial⟩) hk
    ·cases g
   ·cases g
  cases hi;simp only [aj] at g;split at g
  ·rename_i u v J C
   have h1:=h.ev hx J;have h2:=h.ev hy C;split at g
   ·rename_i c q hb
    cases g
    have key: ∃r,(binOp op t (a.eval x) (a.eval y)).run P w= .ok r w∧(∀G,RelS G r c)∧(a.eval x).oneCell' =true∧a.eval x≠ .nilIface:=by
     unfold IE at hb;split at hb
     ·split at hb
      ·cases hb
       rw [h1.int,h2.int];refine ⟨_,?_,fun G=>(show RelS G _ _ from ⟨.int _ _,trivial⟩),rfl,by simp⟩;have: ¬(_:Int)<0:=Int.not_lt.2 R;simp only [binOp,Op.shift,if_neg this,Sem.run_pure]
      ·cases hb
       rw [h1.int,h2.int];refine ⟨_,?_,fun G=>(show RelS G _ _ from ⟨.int _ _,trivial⟩),rfl,by simp⟩;have: ¬(_:Int)<0:=Int.not_lt.2 R;simp only [binOp,Op.shift,if_neg this,Sem.run_pure]
      split at hb
      ·rename_i j
       have:=DW j;subst this;rw [h1.int,h2.int];obtain ⟨r,hr,hg⟩:=DX op _ _ _ hb R t w (P:=P);exact ⟨r,hr,hg,rfl,by simp⟩
      ·cases hb
     ·rw [h1.str,h2.str]
      obtain ⟨r,hr,hg⟩:=DY op _ _ hb R t w (P:=P);exact ⟨r,hr,hg,rfl,by simp⟩
     ·split at hb
      ·rename_i hbt
       rw [h1.bool,h2.bool];obtain ⟨r,hr,hg⟩:=Bp op _ _ hb t hbt w (P:=P);exact ⟨r,hr,hg,rfl,by simp⟩
      ·cases hb
     ·cases hb
    obtain ⟨r,hr,hg,h3,h4⟩:=key;exact an h (by simp [execOp,U,zI h3 h4,hr]) I (hn d I) (hg G) hk
   ·cases g
  ·cases g
 ·cases hi
theorem ME (h:Conc E G fr st a w) {op:UnOp} {t:TypeId} {x:Operand} (C:o.op= .unOp op t x) (hi:aW P mu gs o=some i) (g:aj P i rs fr st=some (fr',st',p)) (hn: ∀d,o.dst=some d→d<E.n) (I:Then E fr' st' K):o.wp P a w K Q:=by
 unfold aW at hi;rw [C] at hi;simp only at hi;split at hi
 ·rename_i d x' r R
  cases hi;simp only [aj] at g;split at g
  ·rename_i u T
   have J:=h.ev R T;split at g
   ·rename_i c j
    cases g;cases u<;>simp only [Nv,reduceCtorEq] at j
    ·rename_i k n
     have:=J.int;cases op<;>simp only [reduceCtorEq] at j
     cases j;exact an h (v:= .int k (k.wrap (0-n))) (x:= .int k (k.wrap (0-n))) (by simp [execOp,C,this,Op.unary,Op.intArith]) r (hn d r) ⟨.int _ _,trivial⟩ I
    ·rename_i b
     have:=J.bool;cases op<;>simp only [reduceCtorEq] at j
     cases j;exact an h (v:= .bool (!b)) (x:= .bool (!b)) (by simp [execOp,C,this,Op.unary]) r (hn d r) ⟨.bool _,trivial⟩ I
   ·cases g
  ·cases g
 ·cases hi
def Cells (w:World) (b o:Nat) (vs:List Value):Prop:= ∀(j:Nat) v,vs[j]? =some v→w.cell? ⟨b,o+j,none⟩=some v
theorem Cells.add {b o:Nat} {vs:List Value} (h:Cells w b o vs): ∀(j:Nat) v,vs[j]? =some v→w.cell? ((⟨b,o,none⟩:Addr).add j)=some v:=fun j v g=>by rw [Addr.add_lit];exact h j v g
theorem yA {t:TypeId} (i:(P.underlying t).isSome=true):(isAgg t).run P w= .ok (lE P t) w:=by
 obtain ⟨d,g⟩:=Option.isSome_iff_exists.1 i;unfold isAgg lE;rw [Sem.run_bind,run_underlying g w];simp only [Result.andThen_ok,g];cases d<;>rfl
theorem sV {t:TypeId} {g:TypeInfo} (j:(P.underlying t).isSome=true) (hi:P.info? t=some g) (p:lE P t=true) {b o:Nat} {vs:List Value} (r:Cells w b o vs) (hl:vs.length=g.size):
  (loadVar t ⟨b,o,none⟩).run P w= .ok (.agg vs.toArray) w:=by
 have i:=run_loadCells_list (P:=P) w ⟨b,o,none⟩ vs r.add;rw [hl] at i;simp [loadVar,yA j,p,sizeOf,typeInfo,hi,i]
theorem sW {t:TypeId} (g:(P.underlying t).isSome=true) (i:lE P t=false) {b o:Nat} {v:Value} (j:w.cell? ⟨b,o,none⟩=some v):(loadVar t ⟨b,o,none⟩).run P w= .ok v w:=by
 simp [loadVar,yA g,i,j]
theorem oe: ∀{n:Nat} {l r:List AV},nG n l=some r→r=l.take n∧r.length=n
 |0,l,r,h=>by cases h;simp
 |n+1,a::l,r,h=>by
  unfold nG at h;split at h
  ·rename_i r' hr
   cases h;obtain ⟨g,i⟩:=oe hr;exact ⟨by rw [g,List.take_succ_cons],by simp [i]⟩
  ·cases h
 |n+1,[],r,h=>by cases h
theorem de: ∀{n:Nat} {l r:List AV},nH n l=some r→r=l.drop n∧n≤l.length
 |0,l,r,h=>by cases h;simp
 |n+1,a::l,r,h=>by
  unfold nH at h;obtain ⟨g,i⟩:=de h;simp [g,i]
 |n+1,[],r,h=>by cases h
theorem qt: ∀{n:Nat} {l:List AV} {a:AV},xz n l=some a→l[n]? =some a
 |0,b::l,a,h=>by cases h;rfl
 |n+1,b::l,a,h=>by
  unfold xz at h;simpa using qt h
 |0,[],a,h=>by cases h
 |n+1,[],a,h=>by cases h
theorem mi {g:Nat} {t:TypeId} {vs:Array Value} (hg:w.heap[g]? =some (.cells vs t (0,0))) (o:Nat):Cells w g o (vs.toList.drop o):=by
 intro j v i;rw [List.getElem?_drop] at i;simp [World.cell?,hg];simpa using i
theorem lF {t:TypeId} {g:TypeInfo} (U:(P.underlying t).isSome=true) (hi:P.info? t=some g) {b o:Nat} {vs:List Value} {cs:List AV} (hc:Cells w b o vs) (hr:RelL G.σ vs (cs.map AV.unown)) (ht:TagsOk G vs cs):
  (∀p,lE P t=true→nG g.size cs=some p→ ∃v,(loadVar t ⟨b,o,none⟩).run P w= .ok v w∧RelS G v (.agg p))∧
  ∀c,lE P t=false→xz 0 cs=some c→ ∃v,(loadVar t ⟨b,o,none⟩).run P w= .ok v w∧RelS G v c:=by
 refine ⟨fun p C I=> ?_,fun c C I=> ?_⟩
 ·obtain ⟨J,h2⟩:=oe I
  have h3:=hr.take g.size;have hl:(vs.take g.size).length=g.size:=by rw [h3.1,←List.map_take,List.length_map,←J,h2]
  refine ⟨.agg (vs.take g.size).toArray,sV U hi C (fun j v i=> ?_) hl,vs.take g.size,rfl,by rw [J,List.map_take];exact h3,fun j v x i r=> ?_⟩
  ·rw [List.getElem?_take] at i
   split at i
   ·exact hc j v i
   ·cases i
  ·rw [J] at r
   rw [List.getElem?_take] at i r;split at i
   ·rw [if_pos (by assumption)] at r;exact ht j v x i r
   ·cases i
 ·have h0:=qt I
  have R:(cs.map AV.unown)[0]? =some c.unown:=by rw [gA8,h0];rfl
  obtain ⟨v,i,T⟩:=hr.at_ R;exact ⟨v,sW U C (by simpa using hc 0 v i),RelS.mk1 T (ht 0 v c i h0)⟩
theorem zL {v:Value} {cs:List AV} (h:RelS G v (.ro cs)): ∃b o vs,v= .pointer (some ⟨b,o,none⟩)∧RelL G.σ vs cs∧ ∀(j:Nat) u,vs[j]? =some u→G.σ b (o+j)=some u:=by
 have:=(h.1:Rel1 G.σ v (.ro cs))
 cases this with
 |ro cs b o f I hr=>
  refine ⟨b,o,(List.range cs.length).map f,rfl,⟨by simp,fun j u c g C=> ?_⟩,fun j u g=> ?_⟩
  ·have p:=(gA0 C).1
   rw [gA8,List.getElem?_range p] at g;cases g;exact hr j c C
  ·rw [gA8] at g
   cases r:(List.range cs.length)[j]? with
   |none=>rw [r] at g;cases g
   |some x=>
    rw [r] at g;cases g;obtain ⟨p,i⟩:=gA0 r;simp at p i;subst i;exact I _ p
theorem MG (h:Conc E G fr st a w) {t:TypeId} {x:Operand} (ho:o.op= .load t x) (hi:aW P mu gs o=some i) (C:aj P i rs fr st=some (fr',st',p)) (hp:p) (hn: ∀d,o.dst=some d→d<E.n) (hk:Then E fr' st' K):o.wp P a w K Q:=by
 unfold aW at hi;rw [ho] at hi;simp only at hi;split at hi
 ·rename_i d x' inf T hx hinf
  split at hi
  ·rename_i hu
   cases hi;simp only [aj] at C;split at C
   ·rename_i id off U
    obtain ⟨g,hB,hv,_⟩:=h.ev hx U;split at C
    ·rename_i cs fz hb
     obtain ⟨hb,hmp⟩:=az hb;obtain ⟨g',hB',h1,ty,vs,hg,I,htg,hfz⟩:=h.box id cs fz hb;replace hg:=hg.cells hmp;rw [hB] at hB';cases hB';split at C
     ·rename_i cs' hdr
      obtain ⟨J,hd2⟩:=de hdr;have hL:=lF (P:=P) (G:=G) hu hinf (mi hg off) (cs:=cs') (by rw [J,List.map_drop];exact I.drop off) (fun j u c R hc' =>by rw [J] at hc';exact htg (off+j) u c (by simpa using R) (by simpa using hc'));split at C
      ·rename_i ha
       split at C
       ·rename_i cs2 htk
        cases C;obtain ⟨v,r,hrel⟩:=hL.1 _ ha htk;exact an h (by simp [execOp,ho,hv,Instr.loadAt,Instr.sureAddr,r]) T (hn d T) hrel hk
       ·cases C
      ·rename_i ha
       split at C
       ·rename_i c hgt
        cases C;obtain ⟨v,r,hrel⟩:=hL.2 _ ha hgt;exact an h (by simp [execOp,ho,hv,Instr.loadAt,Instr.sureAddr,r]) T (hn d T) hrel hk
       ·cases C
     ·cases C
    ·cases C
   ·rename_i cs U
    obtain ⟨b,off,vs,hv,I,hσ⟩:=zL (h.ev hx U);have hcl:Cells w b off vs:=fun j u hu=>h.hold _ _ _ (hσ j u hu)
    have hL:=lF (P:=P) (G:=G) hu hinf hcl (cs:=cs) (by rw [I.map_unown];exact I) I.tags;split at C
    ·rename_i ha
     split at C
     ·rename_i cs2 htk
      cases C;obtain ⟨v,r,hrel⟩:=hL.1 _ ha htk;exact an h (by simp [execOp,ho,hv,Instr.loadAt,Instr.sureAddr,r]) T (hn d T) hrel hk
     ·cases C
    ·rename_i ha
     split at C
     ·rename_i c hgt
      cases C;obtain ⟨v,r,hrel⟩:=hL.2 _ ha hgt;exact an h (by simp [execOp,ho,hv,Instr.loadAt,Instr.sureAddr,r]) T (hn d T) hrel hk
     ·cases C
   ·rename_i id esz ie k c U
    obtain ⟨_,g0,hv0,hg0⟩:=h.ev hx U;split at C
    ·rename_i cs fz hb
     obtain ⟨hb,hmp⟩:=az hb;obtain ⟨g,hB,h1,ty,vs,hg,I,htg,hfz⟩:=h.box id cs fz hb;replace hg:=hg.cells hmp;have hv:=hv0;rw [←hg0 g hB] at hv;split at C
     ·rename_i c' hdr
      obtain ⟨J,hd2⟩:=de hdr
      have hL:c.length=esz∧(cs.drop (ie*esz)).take esz=c→_:=fun hc=>lF (P:=P) (G:=G) hu hinf (w:=w) (b:=g) (o:=ie*esz+k) (vs:=((vs.toList.drop (ie*esz)).take esz).drop k) (cs:=c')
       (fun j u hj=>mi hg (ie*esz+k) j u (by
        rw [List.getElem?_drop,List.getElem?_take] at hj;split at hj
        ·rw [List.getElem?_drop] at hj
         rw [List.getElem?_drop,←hj,Nat.add_assoc]
        ·cases hj))
       (by rw [J,←hc.2,List.map_drop,List.map_take,List.map_drop];exact ((I.drop _).take _).drop _)
       (fun j u x R hx' =>by
        rw [J,←hc.2,List.getElem?_drop,List.getElem?_take] at hx';rw [List.getElem?_drop,List.getElem?_take] at R;split at hx'
        ·rename_i hlt
         rw [if_pos hlt] at R;rw [List.getElem?_drop] at hx' R;exact htg _ u x R hx'
        ·cases hx')
      split at C
      ·rename_i ha
       split at C
       ·rename_i cs2 htk
        cases C;obtain ⟨v,r,hrel⟩:=(hL hp).1 _ ha htk;exact an h (by simp [execOp,ho,hv,Instr.loadAt,Instr.sureAddr,r]) T (hn d T) hrel hk
       ·cases C
      ·rename_i ha
       split at C
       ·rename_i x2 hgt
        cases C;obtain ⟨v,r,hrel⟩:=(hL hp).2 _ ha hgt;exact an h (by simp [execOp,ho,hv,Instr.loadAt,Instr.sureAddr,r]) T (hn d T) hrel hk
       ·cases C
     ·cases C
    ·cases C
   ·rename_i id off U
    obtain ⟨_,_,g0,hv0,hg0⟩:=h.ev hx U;split at C
    ·rename_i cs fz hb
     obtain ⟨hb,hmp⟩:=az hb;obtain ⟨g,hB,h1,ty,vs,hg,I,htg,hfz⟩:=h.box id cs fz hb;replace hg:=hg.cells hmp;have hv:=hv0;rw [←hg0 g hB,dw hmp] at hv;split at C
     ·rename_i cs' hdr
      obtain ⟨J,hd2⟩:=de hdr;have hL:=lF (P:=P) (G:=G) hu hinf (mi hg off) (cs:=cs') (by rw [J,List.map_drop];exact I.drop off) (fun j u c R hc' =>by rw [J] at hc';exact htg (off+j) u c (by simpa using R) (by simpa using hc'));split at C
      ·rename_i ha
       split at C
       ·rename_i cs2 htk
        cases C;obtain ⟨v,r,hrel⟩:=hL.1 _ ha htk;exact an h (by simp [execOp,ho,hv,Instr.loadAt,Instr.sureAddr,r]) T (hn d T) hrel hk
       ·cases C
      ·rename_i ha
       split at C
       ·rename_i c hgt
        cases C;obtain ⟨v,r,hrel⟩:=hL.2 _ ha hgt;exact an h (by simp [execOp,ho,hv,Instr.loadAt,Instr.sureAddr,r]) T (hn d T) hrel hk
       ·cases C
     ·cases C
    ·cases C
   ·cases C
  ·cases hi
 ·cases hi
end
end
section
open Go.RowKit
section
variable {P:Program} {mu:List Nat} {E:Env} {G:Gho} {fr fr' :Fr} {st st' :St} {a:Act} {w:World} {o:Oper} {K:Act→World→Prop} {Q:Exit→Act→World→Prop} {p:Prop} {rs:Option RS} {i:AI} {gs:Bool}
theorem cN {v:Value} {t:Tag} {esz:Nat} {l:List (List AV)} (h:RelS G v (.lst t esz l)): ∃(A:Option Addr) (cap b o:Nat) (f:Nat→Nat→Value),v= .slice A l.length cap∧l.length≤cap∧(0<l.length→A=some ⟨b,o,none⟩)∧
  (∀(i:Nat) (c:List AV),l[i]? =some c→c.length=esz)∧(∀i j,i<l.length→j<esz→G.σ b (o+i*esz+j)=some (f i j))∧
  (∀(i j:Nat) (c:List AV) (x:AV),l[i]? =some c→c[j]? =some x→Rel1 G.σ (f i j) x)∧TagOk G v (.lst t esz l)∧(t= .nil→A=none∧l.length=0∧cap=0)∧(t= .full→cap=l.length):=by
 have key: ∀R,Rel1 G.σ v (.lst R esz l)→ ∃(A:Option Addr) (cap b o:Nat) (f:Nat→Nat→Value),v= .slice A l.length cap∧l.length≤cap∧(0<l.length→A=some ⟨b,o,none⟩)∧
   (∀(i:Nat) (c:List AV),l[i]? =some c→c.length=esz)∧(∀i j,i<l.length→j<esz→G.σ b (o+i*esz+j)=some (f i j))∧
   (∀(i j:Nat) (c:List AV) (x:AV),l[i]? =some c→c[j]? =some x→Rel1 G.σ (f i j) x)∧(R= .nil→A=none∧l.length=0∧cap=0)∧(R= .full→cap=l.length):=by
  intro R h';cases h' with
  |lst R esz l A n cap b o f hn hlen hA hsz hσ hr ht=>
   subst hn;exact ⟨A,cap,b,o,f,rfl,hlen,hA,hsz,hσ,hr,fun e=>by subst e;exact ht,fun e=>by subst e;exact ht⟩
 have T:Rel1 G.σ v ((AV.lst t esz l).unown):=h.1;have U:TagOk G v (.lst t esz l):=h.2;cases t with
 |own s ver=>
  obtain ⟨A,cap,b,o,f,q1,g,p,r,C,I,J,P⟩:=key .any T;exact ⟨A,cap,b,o,f,q1,g,p,r,C,I,U,(fun e=>by cases e),(fun e=>by cases e)⟩
 |nil=>obtain ⟨A,cap,b,o,f,q1,g,p,r,C,I,J,P⟩:=key _ T;exact ⟨A,cap,b,o,f,q1,g,p,r,C,I,U,J,P⟩
 |full=>obtain ⟨A,cap,b,o,f,q1,g,p,r,C,I,J,P⟩:=key _ T;exact ⟨A,cap,b,o,f,q1,g,p,r,C,I,U,J,P⟩
 |any=>obtain ⟨A,cap,b,o,f,q1,g,p,r,C,I,J,P⟩:=key _ T;exact ⟨A,cap,b,o,f,q1,g,p,r,C,I,U,J,P⟩
theorem uw {v:Value} {t:Tag} {esz:Nat} {l:List (List AV)} (h:RelS G v (.lst t esz l)) (ht:t= .nil):l= []:=by
 obtain ⟨_,_,_,_,_,_,_,_,_,_,_,_,g,_⟩:=cN h;exact List.eq_nil_of_length_eq_zero (g ht).2.1
theorem KQ (h:Conc E G fr st a w) {t:TypeId} {x:Operand} {j:Nat} (T:o.op= .fieldAddr t x j) (hi:aW P mu gs o=some i) (I:aj P i rs fr st=some (fr',st',p)) (hn: ∀d,o.dst=some d→d<E.n) (hk:Then E fr' st' K):o.wp P a w K Q:=by
 unfold aW at hi;rw [T] at hi;simp only at hi;split at hi
 ·rename_i d x' fs J hx hu
  split at hi
  ·rename_i f hf
   split at hi
   ·cases hi
   ·rename_i hsz
    cases hi
    have U:(sizeOf f.type).run P w= .ok (P.cellsOf f.type) w:=by
     unfold Program.cellsOf at hsz⊢;cases hq:P.info? f.type with
     |none=>rw [hq] at hsz;simp at hsz
     |some i=>simp [sizeOf,typeInfo,hq]
    have C: ∀b q,(Instr.fieldAt t (.pointer (some ⟨b,q,none⟩)) j).run P w= .ok (.pointer (some ⟨b,q+f.offset,none⟩)) w:=by
     intro b q;simp only [Instr.fieldAt,Sem.run_bind,run_underlying hu,Result.andThen_ok,hf,Instr.sureAddr,Sem.run_pure,fieldPlace,U];rw [if_neg hsz];simp [Addr.add_lit]
    simp only [aj] at I;split at I
    ·rename_i id off r
     cases I;obtain ⟨g,hB,R,hsm⟩:=h.ev hx r;exact an h (v:= .pointer (some ⟨g,off+f.offset,none⟩)) (by simp [execOp,T,R,C]) J (hn d J) (x:= .ptr id (off+f.offset)) ⟨g,hB,rfl,hsm⟩ hk
    ·rename_i cs r
     obtain ⟨b,off,vs,R,hrl,hσ⟩:=zL (h.ev hx r);split at I
     ·rename_i cs' hdr
      cases I;obtain ⟨hd1,hd2⟩:=de hdr;refine an h (v:= .pointer (some ⟨b,off+f.offset,none⟩)) (by simp [execOp,T,R,C]) J (hn d J) (RelS.of1 (.ro cs' b (off+f.offset) (fun k=>(vs.drop f.offset).getD k undef) (fun k hk' => ?_) fun k x hx' => ?_)) hk
      ·have:(vs.drop f.offset)[k]? =some ((vs.drop f.offset)[k]'(by rw [gA6,hrl.1,←gA6,←hd1];exact hk')):=gA1 _
       rw [List.getElem?_drop] at this;rw [Nat.add_assoc,hσ _ _ this,List.getD,List.getElem?_drop,this];rfl
      ·rw [hd1] at hx'
       obtain ⟨v,hv1,hv2⟩:=(hrl.drop f.offset).at_ hx';rw [List.getD,hv1];exact hv2
     ·cases I
    ·rename_i id esz ie k c r
     cases I;obtain ⟨hid,g,R,hg⟩:=h.ev hx r;exact an h (v:= .pointer (some ⟨g,ie*esz+k+f.offset,none⟩)) (by simp [execOp,T,R,C]) J (hn d J) (x:= .pel id esz ie (k+f.offset) c) ⟨hid,g,by rw [Nat.add_assoc],hg⟩ hk
    ·rename_i id off r
     split at I
     ·cases I
     rename_i hmp;cases I;obtain ⟨_,hid,g,R,hg⟩:=h.ev hx r;rw [dw hmp] at R;exact an h (v:= .pointer (some ⟨g,off+f.offset,none⟩)) (by simp [execOp,T,R,C]) J (hn d J) (x:= .np id (off+f.offset)) ⟨.top _ rfl,hid,g,(dw hmp _ _).symm,hg⟩ hk
    ·cases I
  ·cases hi
 ·cases hi
theorem IK (h:Conc E G fr st a w) {x:Operand} (ho:o.op= .nilCheck x) (hi:aW P mu gs o=some i) (I:aj P i rs fr st=some (fr',st',p)) (hn: ∀d,o.dst=some d→d<E.n) (T:Then E fr' st' K):o.wp P a w K Q:=by
 unfold aW at hi;rw [ho] at hi;simp only at hi;split at hi
 ·rename_i d x' J R
  cases hi;have r: ∀b q,a.eval x= .pointer (some ⟨b,q,none⟩)→(execOp a.eval o).run P w= .ok (.value (.pointer (some ⟨b,q,none⟩))) w:=fun b q C=>by simp [execOp,ho,C]
  simp only [aj] at I;split at I
  ·rename_i id off j
   cases I;obtain ⟨g,hB,C,U⟩:=h.ev R j;exact an h (r _ _ C) J (hn d J) (x:= .ptr id (off+0)) ⟨g,hB,rfl,U⟩ T
  ·rename_i cs j
   obtain ⟨b,off,vs,C,_,_⟩:=zL (h.ev R j);cases I;exact an h (r _ _ C) J (hn d J) (x:= .ro cs) (C▸h.ev R j) T
  ·rename_i id esz ie k c j
   cases I;obtain ⟨hid,g,C,hg⟩:=h.ev R j;exact an h (r _ _ C) J (hn d J) (x:= .pel id esz ie (k+0) c) ⟨hid,g,rfl,hg⟩ T
  ·rename_i id off j
   split at I
   ·cases I
   rename_i hmp;cases I;obtain ⟨_,hid,g,C,hg⟩:=h.ev R j;rw [dw hmp] at C;exact an h (r _ _ C) J (hn d J) (x:= .np id (off+0)) ⟨.top _ rfl,hid,g,(dw hmp _ _).symm,hg⟩ T
  ·cases I
 ·cases hi
theorem KR (h:Conc E G fr st a w) {t:TypeId} {x y:Operand} (ho:o.op= .indexAddr t x y) (hi:aW P mu gs o=some i) (hs:aj P i rs fr st=some (fr',st',p)) (hp:p) (hn: ∀d,o.dst=some d→d<E.n) (hk:Then E fr' st' K):o.wp P a w K Q:=by
 unfold aW at hi;rw [ho] at hi;simp only at hi;split at hi
 ·rename_i d x' y' e hd hx hy hu
  split at hi
  ·rename_i r J
   split at hi
   ·rename_i hpos
    cases hi;simp only [aj] at hs;split at hs
    ·rename_i id esz' n0 cap k n cs R T
     cases hs;obtain ⟨he,hn0,U⟩:=hp;subst he;obtain ⟨_,hid,_,g,hv,hg⟩:=h.ev hx R;have hiv:=(h.ev hy T).int;have hb:0≤n∧n<(n0:Int):=⟨hn0,U⟩
     have hsz:(sizeOf e).run P w= .ok r.size w:=by simp [sizeOf,typeInfo,J]
     have hue:P.underlying t=some (.slice (P.elem t)):=by unfold Program.elem;rw [hu]
     have I:P.elem t=e:=by unfold Program.elem;rw [hu]
     have C:(Instr.indexAt t (.slice (some ⟨g,0,none⟩) n0 cap) (.int k n)).run P w= .ok (.pointer (some ⟨g,n.toNat*r.size+0,none⟩)) w:=by
      rw [run_indexAt_slice w t _ _ _ k n hue,if_pos hb,I,hsz];simp [Addr.add_lit]
     exact an h (v:= .pointer (some ⟨g,n.toNat*r.size+0,none⟩)) (by simp only [execOp,ho,hv,hiv,Sem.run_bind,C,Result.andThen_ok,Sem.run_pure]) hd (hn d hd) (x:= .pel id r.size n.toNat 0 cs) ⟨hid,g,rfl,hg⟩ hk
    ·rename_i t' esz' l k n cs R T
     cases hs;obtain ⟨he,hn0,hl⟩:=hp;subst he;obtain ⟨A,cap,b,q,f,hv,q2,q3,q4,q5,q6,_⟩:=cN (h.ev hx R);have hiv:=(h.ev hy T).int;obtain ⟨U,hle⟩:=gA0 hl;have hA:=q3 (by omega);subst hA;have hb:0≤n∧n<(l.length:Int):=⟨hn0,by omega⟩
     have hsz:(sizeOf e).run P w= .ok r.size w:=by simp [sizeOf,typeInfo,J]
     have hue:P.underlying t=some (.slice (P.elem t)):=by unfold Program.elem;rw [hu]
     have I:P.elem t=e:=by unfold Program.elem;rw [hu]
     have C:(Instr.indexAt t (.slice (some ⟨b,q,none⟩) l.length cap) (.int k n)).run P w= .ok (.pointer (some ⟨b,q+n.toNat*r.size,none⟩)) w:=by
      rw [run_indexAt_slice w t _ _ _ k n hue,if_pos hb,I,hsz];simp [Addr.add_lit]
     have hcl:=q4 _ _ hl;refine an h (v:= .pointer (some ⟨b,q+n.toNat*r.size,none⟩)) (by simp [execOp,ho,hv,hiv,C]) hd (hn d hd) (RelS.of1 (.ro cs b _ (fun j=>f n.toNat j) (fun j hj=> ?_) fun j x hx' =>q6 _ _ _ _ hl hx')) hk;exact q5 _ _ U (by omega)
    ·cases hs
   ·cases hi
  ·cases hi
 ·rename_i d x' y' n e hd hx hy hu
  split at hi
  ·rename_i r J
   split at hi
   ·cases hi
    simp only [aj] at hs;split at hs
    ·rename_i id off k m R T
     cases hs;obtain ⟨h0,U⟩:=hp;obtain ⟨g,hB,hv,hsm⟩:=h.ev hx R;have hiv:=(h.ev hy T).int;have hsz:(sizeOf e).run P w= .ok r.size w:=by simp [sizeOf,typeInfo,J]
     have hal:P.arrayLen t=n:=by unfold Program.arrayLen;rw [hu]
     have I:P.elem t=e:=by unfold Program.elem;rw [hu]
     have hue:P.underlying t=some (.array (P.arrayLen t) (P.elem t)):=by rw [hal,I];exact hu
     have C:(Instr.indexAt t (.pointer (some ⟨g,off,none⟩)) (.int k m)).run P w= .ok (.pointer (some ⟨g,off+m.toNat*r.size,none⟩)) w:=by
      rw [run_indexAt_array w t _ k m hue,if_pos (by rw [hal];exact ⟨h0,U⟩),I,hsz];simp [Addr.add_lit]
     exact an h (v:= .pointer (some ⟨g,off+m.toNat*r.size,none⟩)) (by simp [execOp,ho,hv,hiv,C]) hd (hn d hd) (x:= .ptr id (off+m.toNat*r.size)) ⟨g,hB,rfl,hsm⟩ hk
    ·rename_i id off k m R T
     split at hs
     ·cases hs
     rename_i hmp;cases hs;obtain ⟨h0,U⟩:=hp;obtain ⟨_,hid,g,hv,hg⟩:=h.ev hx R;rw [dw hmp] at hv;have hiv:=(h.ev hy T).int;have hsz:(sizeOf e).run P w= .ok r.size w:=by simp [sizeOf,typeInfo,J]
     have hal:P.arrayLen t=n:=by unfold Program.arrayLen;rw [hu]
     have I:P.elem t=e:=by unfold Program.elem;rw [hu]
     have hue:P.underlying t=some (.array (P.arrayLen t) (P.elem t)):=by rw [hal,I];exact hu
     have C:(Instr.indexAt t (.pointer (some ⟨g,off,none⟩)) (.int k m)).run P w= .ok (.pointer (some ⟨g,off+m.toNat*r.size,none⟩)) w:=by
      rw [run_indexAt_array w t _ k m hue,if_pos (by rw [hal];exact ⟨h0,U⟩),I,hsz];simp [Addr.add_lit]
     exact an h (v:= .pointer (some ⟨g,off+m.toNat*r.size,none⟩)) (by simp [execOp,ho,hv,hiv,C]) hd (hn d hd) (x:= .np id (off+m.toNat*r.size)) ⟨.top _ rfl,hid,g,(dw hmp _ _).symm,hg⟩ hk
    ·cases hs
   ·cases hi
  ·cases hi
 ·cases hi
theorem IL (h:Conc E G fr st a w) {t:TypeId} {x y:Operand} (R:o.op= .index t x y) (hi:aW P mu gs o=some i) (r:aj P i rs fr st=some (fr',st',p)) (U:p) (hn: ∀d,o.dst=some d→d<E.n) (hk:Then E fr' st' K):o.wp P a w K Q:=by
 unfold aW at hi;rw [R] at hi;simp only at hi;split at hi
 ·rename_i d x' y' T hx hy hu
  cases hi;simp only [aj] at r;split at r
  ·rename_i s k n C I
   cases r;obtain ⟨h0,h1⟩:=U;have hv:=(h.ev hx C).str;have J:=(h.ev hy I).int;have g:n.toNat<s.size:=by omega
   have j:(Instr.index t (.string s) (.int k n)).run P w= .ok (.int .u8 (s.data.getD n.toNat 0).toNat) w:=by
    have e:s[n.toNat]? =some (s.data.getD n.toNat 0):=by
     rw [getElem?_pos s n.toNat g];congr 1;show s.data[n.toNat]'g=_;rw [Array.getD,dif_pos (show n.toNat<s.data.size from g)];rfl
    simp [Instr.index,asIntOf,run_underlying hu,h0,e]
   exact an h (v:= .int .u8 (s.data.getD n.toNat 0).toNat) (by simp only [execOp,R,hv,J,Sem.run_bind,j,Result.andThen_ok,Sem.run_pure]) T (hn d T) (x:= .int .u8 (s.data.getD n.toNat 0).toNat) ⟨.int _ _,trivial⟩ hk
  ·cases r
 ·cases hi
theorem IM (h:Conc E G fr st a w) {c:Call} (ho:o.op= .call c) (hc:c.callee= .builtin .len) (hi:aW P mu gs o=some i) (C:aj P i rs fr st=some (fr',st',p)) (hn: ∀d,o.dst=some d→d<E.n) (hno: ∀mo d ys,i≠ .mop mo d ys) (hk:Then E fr' st' K):o.wp P a w K Q:=by
 unfold aW at hi;rw [ho] at hi;simp only [hc] at hi;split at hi
 ·rename_i d x t R I T
  have U:c.args= #[x]:=Array.toList_inj.1 I;have htys:c.argTypes= #[t]:=Array.toList_inj.1 T
  have r: ∀v,(Builtin.len_ #[t] o.type #[a.eval x]).run P w= .ok v w→(execOp a.eval o).run P w= .ok (.value v) w:=by
   intro v J;simp [execOp,ho,resolve,hc,U,htys,invoke,builtin,J]
  split at hi
  ·rename_i x' hx hu
   cases hi;simp only [aj] at C;split at C
   ·rename_i heq _;cases heq
   ·rename_i heq _;cases heq
   ·rename_i heq _;cases heq
   ·rename_i s heq j
    cases C;have J:=(h.ev hx j).str;exact an h (r (.int .i64 s.size) (by simp [Builtin.len_,run_underlying hu,J,goInt])) R (hn d R) (x:= .int .i64 s.size) ⟨.int _ _,trivial⟩ hk
   ·cases C
  ·rename_i x' e hx hu
   cases hi;simp only [aj] at C;split at C
   ·rename_i t' esz l heq j
    cases C;obtain ⟨A,cap,b,q,f,J,_⟩:=cN (h.ev hx j);exact an h (r (.int .i64 l.length) (by simp [Builtin.len_,run_underlying hu,J,goInt])) R (hn d R) (x:= .int .i64 l.length) ⟨.int _ _,trivial⟩ hk
   ·rename_i id esz n cap heq j
    cases C;obtain ⟨_,hid,_,g,J,hg⟩:=h.ev hx j;exact an h (r (.int .i64 n) (by simp [Builtin.len_,run_underlying hu,J,goInt])) R (hn d R) (x:= .int .i64 n) ⟨.int _ _,trivial⟩ hk
   ·rename_i key esz rows heq j
    cases C;obtain ⟨_,g,cap,hφ,J⟩:=h.ev hx j;exact an h (r (.int .i64 rows.length) (by simp [Builtin.len_,run_underlying hu,J,goInt])) R (hn d R) (x:= .int .i64 rows.length) ⟨.int _ _,trivial⟩ hk
   ·rename_i heq _;cases heq
   ·cases C
  ·cases hi;exact absurd rfl (hno _ _ _)
  ·cases hi
 ·cases hi
theorem KT (h:Conc E G fr st a w) {x:Operand} {j:Nat} (R:o.op= .extract x j) (hi:aW P mu gs o=some i) (g:aj P i rs fr st=some (fr',st',p)) (hn: ∀d,o.dst=some d→d<E.n) (hk:Then E fr' st' K):o.wp P a w K Q:=by
 unfold aW at hi;rw [R] at hi;simp only at hi;split at hi
 ·rename_i d x' T hx
  cases hi;simp only [aj] at g;split at g
  ·rename_i l C
   split at g
   ·rename_i c hc
    cases g;obtain ⟨vs,hv,hl,hr⟩:=h.ev hx C;have U:=qt hc;have r:j<vs.length:=by rw [hl];exact (gA0 U).1
    have h1:vs[j]? =some vs[j]:=gA1 r;have I:=hr j _ _ h1 U
    have h3:RelS G vs[j] c:=by
     cases c<;>first
      |exact RelS.of1 I
      |exact I
      |(obtain ⟨us,he,J⟩:=I;exact ⟨us,he,by rw [J.map_unown];exact J,J.tags⟩)
    exact an h (v:=vs[j]) (by simp [execOp,R,hv,Instr.extract,r]) T (hn d T) h3 hk
   ·cases g
  ·cases g
 ·cases hi
theorem IN (h:Conc E G fr st a w) {c:Call} (T:o.op= .call c) (r:c.callee= .builtin .max∨c.callee= .builtin .min) (hi:aW P mu gs o=some i) (C:aj P i rs fr st=some (fr',st',p)) (hn: ∀d,o.dst=some d→d<E.n) (hk:Then E fr' st' K):o.wp P a w K Q:=by
 have pk: ∀(k:IntKind) (q:Prop) [Decidable q] (m n:Int),Value.int k (if q then m else n)= .int k (match decide q with|true=>m|false=>n):=fun k q _ m n=>by
  by_cases I:q
  ·rw [if_pos I,decide_eq_true I]
  ·rw [if_neg I,decide_eq_false I]
 unfold aW at hi;rw [T] at hi;rcases r with r|r
 all_goals
  simp only [r] at hi;split at hi
  ·rename_i d x y U g
   have j:c.args= #[x,y]:=Array.toList_inj.1 g;split at hi
   ·rename_i x' y' hx hy
    cases hi;simp only [aj] at C;split at C
    ·rename_i k n k2 m J R
     cases C;have hv:=(h.ev hx J).int;have hw:=(h.ev hy R).int;refine an h (x:= .int k _) (Eq.trans ?_ (congrArg (fun v=>Result.ok (Next.value v) w) (pk k _ m n))) U (hn d U) ⟨.int k _,trivial⟩ hk;simp [execOp,T,resolve,r,j,invoke,builtin,hv,hw,Builtin.max_,Builtin.max2,Builtin.min_,Builtin.min2]
    ·cases C
   ·cases hi
  ·cases hi
theorem IP (h:Conc E G fr st a w) {s t:TypeId} {x:Operand} (ho:o.op= .convert s t x) (hi:aW P mu gs o=some i) (g:aj P i rs fr st=some (fr',st',p)) (hp:p) (hn: ∀d,o.dst=some d→d<E.n) (hk:Then E fr' st' K):o.wp P a w K Q:=by
 unfold aW at hi;rw [ho] at hi;simp only at hi;split at hi
 ·rename_i d x' k0 k J hx r C
  cases hi;simp only [aj] at g;split at g
  ·rename_i k1 n I
   cases g;have hv:=(h.ev hx I).int;exact an h (v:= .int k (k.wrap n)) (by simp [execOp,ho,hv,convert,run_underlying r,run_underlying C,Conv.intToInt]) J (hn d J) (x:= .int k (k.wrap n)) ⟨.int _ _,trivial⟩ hk
  ·cases g
 ·rename_i d x' e J hx r C
  split at hi
  ·rename_i hue
   cases hi;simp only [aj] at g;split at g
   ·rename_i tg esz l I
    split at g
    ·rename_i U q hbs
     cases g;obtain ⟨he,R,hq⟩:=hp;subst he;obtain ⟨A,cap,b,o2,f,hv,q2,q3,q4,q5,q6,_⟩:=cN (h.ev hx I);obtain ⟨hl,hat⟩:=iQ hbs hq;have hA:=q3 R;subst hA
     have T:(convert s t (.slice (some ⟨b,o2,none⟩) l.length cap)).run P w= .ok (.string ⟨U.toArray⟩) w:=by
      rw [←hl];refine run_convert_bytes_back w s t e ⟨b,o2,none⟩ cap U r hue C fun j hj=> ?_
      have h1:=q6 j 0 _ _ (hat j hj) rfl;have h2:=h.hold _ _ _ (q5 j 0 (by omega) (by omega));rw [Nat.mul_one,Nat.add_zero] at h2;rw [Addr.add_lit,h2];generalize f j 0=u at h1;cases h1;rfl
     exact an h (v:= .string ⟨U.toArray⟩) (by simp [execOp,ho,hv,T]) J (hn d J) (x:= .str ⟨U.toArray⟩) ⟨.str _,trivial⟩ hk
    ·cases g
   ·cases g
  ·cases hi
 ·cases hi
end
end
section
open Go.RowKit
section
variable {P:Program} {mu:List Nat} {E:Env} {G:Gho} {fr fr' :Fr} {st st' :St} {a:Act} {w:World} {o:Oper} {K:Act→World→Prop} {Q:Exit→Act→World→Prop} {p:Prop} {rs:Option RS} {i:AI} {gs:Bool}
theorem Conc.fresh (h:Conc E G fr st a w) (j:Nat):G.σ w.heap.size j=none:=by
 cases g:G.σ w.heap.size j with
 |none=>rfl
 |some v=>
  have:=World.block_lt_of_cell? w _ (h.hold _ _ _ g);simp at this
theorem Conc.Blt (h:Conc E G fr st a w): ∀id g,G.B id=some g→g<w.heap.size:=fun id g hg=>by
 cases i:st.box id with
 |none=>rw [h.bnone id i] at hg;cases hg
 |some x=>
  obtain ⟨p,fz⟩:=x;obtain ⟨g',j,_,I,r,C,_⟩:=h.box id p fz i;rw [hg] at j;cases j;exact C.lt
theorem Conc.notMap (h:Conc E G fr st a w) {id g:Nat} {cs:List AV} {fz:Bool} {t:TypeId} {vs:Array Value} {z:Nat×Nat} (hb:st.box id=some (cs,fz)) (r:G.B id=some g) (hg:w.heap[g]? =some (.cells vs t z)):cC id=false∧(ew id=true→t=bT):=by
 obtain ⟨g',i,_,_,_,⟨o,p,j⟩,_⟩:=h.box id cs fz hb;rw [r] at i;cases i;rw [hg] at p;cases p;unfold nI at j;split at j
 ·cases j.1;exact ⟨by assumption,j.2⟩
 ·obtain ⟨_,_,e,_⟩:=j
  cases e
theorem Conc.ρlt (h:Conc E G fr st a w): ∀s r,G.ρ s (st.row s)=some r→r.g<w.heap.size:=fun s r i=>by
 obtain ⟨⟨_,p,g,j,_⟩,_⟩:=h.row s r i;exact ea j
theorem Conc.newbox (h:Conc E G fr st a w) {d:Nat} (hd:d<E.n) (hb:st.box d=none) {cs:List AV} {vs:Array Value} (t:TypeId) (hr:RelL G.σ vs.toList (cs.map AV.unown)) (ht:TagsOk G vs.toList cs):
  Conc E {G with B:=upd G.B d (some w.heap.size)} (aG fr d (.ptr d 0)) {st with box:=upd st.box d (some (cs,false))} (a.put (some d) (.pointer (some ⟨w.heap.size,0,none⟩))) (w.alloc (.cells vs t)):=by
 have hBd:=h.bnone d hb
 have T:G.le {G with B:=upd G.B d (some w.heap.size)}:=⟨Sg.le.refl _,fun _ _ _ h=>h,fun _ _ h=>h,fun id g hid hg=>by
  have C:=h.small;simp only at hg;rw [ax,if_neg (by omega)] at hg;exact hg⟩
 have hBn: ∀id g,G.B id=some g→(upd G.B d (some w.heap.size)) id=some g:=fun id g hg=>by
  rw [ax,if_neg (fun e=>by rw [e,hBd] at hg;cases hg)];exact hg
 have i:Below w.heap.size w (w.alloc (.cells vs t)):=(Below.refl _ _).alloc (gA4 _) _
 have R: ∀id g,G.B id=some g→g<w.heap.size:=fun id g hg=>by
  cases hbx:st.box id with
  |none=>rw [h.bnone id hbx] at hg;cases hg
  |some x=>
   obtain ⟨U,fz⟩:=x;obtain ⟨g',hg',_,t',vs',hh,_⟩:=h.box id U fz hbx;rw [hg] at hg';cases hg';exact hh.lt
 exact
 { defers:=by rw [od];exact h.defers
   size:=by rw [uO];exact h.size
   slots:=fun s y p=>by
    rw [uN a _ s (by rw [h.size];exact hd)];unfold aG at p;rw [ax] at p;by_cases hsd:s=d
    ·rw [if_pos hsd] at p⊢
     cases p;exact ⟨w.heap.size,cf _ _ _,rfl,Nat.lt_of_lt_of_le hd h.small⟩
    ·rw [if_neg hsd] at p⊢
     exact (h.slots s y p).mono T fun id off g _ hg=>hBn id g hg
   hold:=fun b o v hv=>by
    have J:=h.hold b o v hv;rw [World.cell?_alloc_lt w _ _ (World.block_lt_of_cell? w _ J)];exact J
   ext:=h.ext
   below:=h.below.trans (BelowK.of i fun _=>False) (fun _ h=>False.elim h)
   box:=fun id U fz p=>by
    simp only at p;rw [ax] at p;by_cases hid:id=d
    ·rw [if_pos hid] at p
     cases p;subst hid;exact ⟨w.heap.size,cf _ _ _,.inl h.lt,t,vs,.mk (uu (Nat.lt_of_lt_of_le hd h.small)) (fun e=>by rw [pf (Nat.lt_of_lt_of_le hd h.small)] at e;cases e) (heap_alloc_new w _),hr,ht.mono T,fun j=>h.fresh j⟩
    ·rw [if_neg hid] at p
     obtain ⟨g,J,C,t',vs',P,h4,h5,h6⟩:=h.box id U fz p;exact ⟨g,hBn id g J,C,t',vs',P.of (i.block g P.lt),h4,h5.mono T,h6⟩
   bnone:=fun id p=>by
    simp only at p⊢;rw [ax] at p⊢;by_cases hid:id=d
    ·rw [if_pos hid] at p;cases p
    ·rw [if_neg hid] at p⊢;exact h.bnone id p
   binj:=fun id id' g J C=>by
    simp only at J C;rw [ax] at J C;by_cases hid:id=d
    ·rw [if_pos hid] at J
     by_cases I:id' =d
     ·rw [hid,I]
     ·rw [if_neg I] at C
      cases J;have:=R _ _ C;omega
    ·rw [if_neg hid] at J
     by_cases I:id' =d
     ·rw [if_pos I] at C
      cases C;have:=R _ _ J;omega
     ·rw [if_neg I] at C;exact h.binj id id' g J C
   row:=fun s r p=>by
    obtain ⟨⟨J,e,cur,P,h4⟩,h9⟩:=h.row s r p;refine ⟨⟨J,e,cur,by rw [i.block r.g (ea P)];exact P,h4⟩,fun id=> ?_⟩;simp only;rw [ax];split
    ·intro e
     injection e with e
     have:=ea P;omega
    ·exact h9 id
   rinj:=h.rinj
   rlt:=h.rlt
   phi:=fun k x hk=>by
    obtain ⟨⟨J,C⟩,P,h4⟩:=h.phi k x hk;refine ⟨⟨J,C.on (Sg.le.refl _) (i.block _ C.lt) C.free⟩,fun id=> ?_,h4⟩;simp only;rw [ax];split
    ·intro e
     injection e with e
     have:=C.lt;omega
    ·exact P id
   phinj:=h.phinj
   pnone:=fun k hk=>h.pnone k (by
    unfold aG at hk;rw [ax] at hk;split at hk
    ·cases hk
    ·exact hk)
   small:=h.small
   keep:=fun id g C hg=>h.keep id g C (by
    have P:=h.small;simp only at hg;rw [ax,if_neg (by omega)] at hg;exact hg)}
theorem iB: ∀{vs:List Value} {ts:List TypeId} {cs:List AV},ij P ts vs=some cs→RelL G.σ vs (cs.map AV.unown)∧TagsOk G vs cs
 | [],ts,cs,h=>by cases h;exact ⟨.nil,fun j v a C=>by simp at C⟩
 |v::vs,ts,cs,h=>by
  unfold ij at h;split at h
  ·rename_i c I g J
   cases h;obtain ⟨R,T⟩:=iB J;have r:=yz g G
   have key:Rel1 G.σ v c.unown∧TagOk G v c:=by
    unfold jN at g
    split at g<;>first
     |(cases g;exact r)
     |(split at g<;>cases g<;>exact r)
     |cases g
   refine ⟨.cons key.1 R,fun j u x i p=> ?_⟩;cases j with
   |zero=>simp at i p;subst i p;exact key.2
   |succ j=>exact T j u x (by simpa using i) (by simpa using p)
  ·cases h
theorem KU (h:Conc E G fr st a w) {t:TypeId} {x:Operand} (C:o.op= .box t x) (hi:aW P mu gs o=some i) (g:aj P i rs fr st=some (fr',st',p)) (hn: ∀d,o.dst=some d→d<E.n) (J:Then E fr' st' K):o.wp P a w K Q:=by
 unfold aW at hi;rw [C] at hi;simp only at hi;split at hi
 ·rename_i d x' I R
  cases hi;simp only [aj] at g;split at g
  ·rename_i c r hb
   split at g
   ·rename_i cs T
    cases g;obtain ⟨U,h2⟩:=(h.ev R r).cells T
    have j:(execOp a.eval o).run P w= .ok (.value (.pointer (some ⟨w.heap.size,0,none⟩))) (w.alloc (.cells (a.eval x).cells t)):=by
     simp [execOp,C,Instr.box,newVar,newRow]
    unfold Oper.wp;rw [j,Oper.upon_value,I];exact J _ _ _ (h.newbox (hn d I) hb t U h2)
   ·cases g
  ·cases g
 ·cases hi
theorem GN (h:Conc E G fr st a w) {t:TypeId} (J:o.op= .alloc t) (I:Nat.beq t bT=false) (hi:aW P mu gs o=some i) (C:aj P i rs fr st=some (fr',st',p)) (hn: ∀d,o.dst=some d→d<E.n) (T:Then E fr' st' K):o.wp P a w K Q:=by
 unfold aW at hi;rw [J] at hi;simp only [I] at hi;split at hi
 ·rename_i d z R g
  cases hi;simp only [aj] at C;split at C
  ·rename_i hb
   cases C;unfold qo at g;split at g
   ·rename_i U j
    split at g
    ·rename_i v hv
     obtain ⟨h1,h2⟩:=iB (G:=G) g
     have r:(execOp a.eval o).run P w= .ok (.value (.pointer (some ⟨w.heap.size,0,none⟩))) (w.alloc (.cells v.cells t)):=by
      simp [execOp,J,Instr.alloc,zeroValue,typeInfo,j,hv,newVar,newRow]
     unfold Oper.wp;rw [r,Oper.upon_value,R];exact T _ _ _ (h.newbox (hn d R) hb t h1 h2)
    ·cases g
   ·cases g
  ·cases C
 ·cases hi
theorem dg: ∀{n:Nat} {xs l r:List AV},splice n xs l=some r→r=l.take n++xs++l.drop (n+xs.length)∧(xs≠ []→n+xs.length≤l.length)∧r.length=l.length
 |n,[],l,r,h=>by
  cases n<;>(unfold splice at h;cases h;simp)
 |0,x::xs,a::l,r,h=>by
  unfold splice at h;split at h
  ·rename_i r' hr
   cases h;obtain ⟨g,i,j⟩:=dg hr;refine ⟨?_,fun _=> ?_,by simp [j]⟩
   ·rw [g];simp
   ·cases xs with
    |nil=>simp
    |cons y ys=>have:=i (by simp);simp at this⊢;omega
  ·cases h
 |n+1,x::xs,a::l,r,h=>by
  unfold splice at h;split at h
  ·rename_i r' hr
   cases h;obtain ⟨g,i,j⟩:=dg hr;refine ⟨?_,fun _=> ?_,by simp [j]⟩
   ·rw [g,show n+1+(x::xs).length=(n+(x::xs).length)+1 by omega];simp
   ·have:=i (by simp);simp at this⊢;omega
  ·cases h
 |0,_::_,[],r,h=>by cases h
 |n+1,_::_,[],r,h=>by cases h
theorem RelL.splice {σ:Sg} {G:Gho} {vs us:List Value} {cs xs r:List AV} {n:Nat} (h:RelL σ vs (cs.map AV.unown)) (ht:TagsOk G vs cs) (J:RelL σ us (xs.map AV.unown)) (C:TagsOk G us xs) (R:Proofs.YtbgflifmanjpjaaGreatDoor.splice n xs cs=some r) (T:n+us.length≤vs.length):
  RelL σ (vs.take n++us++vs.drop (n+us.length)) (r.map AV.unown)∧TagsOk G (vs.take n++us++vs.drop (n+us.length)) r:=by
 obtain ⟨P,h2,h3⟩:=dg R;have p:us.length=xs.length:=by simpa using J.1
 have U:vs.length=cs.length:=by simpa using h.1
 constructor
 ·rw [P]
  simp only [List.map_append,List.map_take,List.map_drop];rw [←p];exact ((h.take n).append J).append (h.drop _)
 ·intro j v c i g
  rw [P,←p] at g;by_cases hj:j<n
  ·rw [List.append_assoc,gC1 (by rw [gA7];omega),List.getElem?_take,if_pos hj] at i g
   exact ht j v c i g
  ·rw [List.append_assoc,gC2 (by rw [gA7];omega),gA7] at i g
   have e1:min n vs.length=n:=by omega
   have e2:min n cs.length=n:=by omega
   rw [e1] at i;rw [e2] at g;by_cases I:j-n<us.length
   ·rw [gC1 I] at i
    rw [gC1 (by omega)] at g;exact C _ v c i g
   ·rw [gC2 (by omega),List.getElem?_drop] at i
    rw [gC2 (by omega),List.getElem?_drop] at g;exact ht _ v c i (by rw [←g,p])
theorem Conc.write (h:Conc E G fr st a w) {id g:Nat} {U new:List AV} {ty:TypeId} {vs:Array Value} (hb:st.box id=some (U,false)) (C:G.B id=some g) (I:E.own g) (hg:w.heap[g]? =some (.cells vs ty (0,0))) (J: ∀j,G.σ g j=none)
  {P:List Value} (hr:RelL G.σ P (new.map AV.unown)) (ht:TagsOk G P new):Conc E G fr {st with box:=upd st.box id (some (new,false))} a (w.setRow g P.toArray):=by
 have p: ∀k,k≠g→(w.setRow g P.toArray).heap[k]? =w.heap[k]? :=fun k hk' =>setRow_other w g k _ hk'
 refine {
  defers:=h.defers
  size:=h.size
  slots:=h.slots
  hold:=fun b q v hv=> ?_
  ext:=h.ext
  below:=yy h.below I
  box:=fun id' cs' fz' i=> ?_
  bnone:=fun id' i=> ?_
  binj:=h.binj
  row:=fun s r i=> ?_
  rinj:=h.rinj
  rlt:=h.rlt
  phi:=fun k x hk=> ?_
  phinj:=h.phinj
  pnone:=h.pnone
  small:=h.small
  keep:=h.keep}
 ·have hbg:b≠g:=fun e=>by
   subst e;have:=J q;rw [hv] at this;cases this
  rw [cell_setRow_other w g _ ⟨b,q,none⟩ hbg];exact h.hold b q v hv
 ·simp only at i
  rw [ax] at i;split at i
  ·rename_i e
   cases i;subst e;exact ⟨g,C,I,ty,P.toArray,.mk (h.notMap hb C hg).1 (h.notMap hb C hg).2 (setRow_heap w g vs _ ty _ hg),by simpa using hr,by simpa using ht,fun j=>J j⟩
  ·rename_i e
   obtain ⟨g2,T,k2,t2,vs2,k3,k4⟩:=h.box id' cs' fz' i;have:g2≠g:=fun R=>e (h.binj id' id g (R▸T) C)
   exact ⟨g2,T,k2,t2,vs2,k3.of (p g2 this),k4⟩
 ·simp only at i
  rw [ax] at i;split at i
  ·cases i
  ·exact h.bnone id' i
 ·obtain ⟨⟨T,e,cur,k3,k4⟩,k9⟩:=h.row s r i
  have:r.g≠g:=fun R=>k9 id (R▸C)
  exact ⟨⟨T,e,cur,by rw [p r.g this];exact k3,k4⟩,k9⟩
 ·obtain ⟨⟨h1,h2⟩,h3,h4⟩:=h.phi k x hk
  have:x.g≠g:=fun R=>h3 id (R▸C)
  exact ⟨⟨h1,h2.on (Sg.le.refl _) (p _ this) h2.free⟩,h3,h4⟩
theorem Conc.rebox (h:Conc E G fr st a w) {id:Nat} {x:List AV×Bool} (hb:st.box id=some x):Conc E G fr {st with box:=upd st.box id (some x)} a w:=by
 have:upd st.box id (some x)=st.box:=by
  funext k;rw [ax];split
  ·rename_i e;rw [e,hb]
  ·rfl
 rw [this];exact h
theorem uP {α:Type} (l:List α) (a n:Nat):l.take a++(l.drop a).take n++l.drop (a+n)=l:=by
 have g:l.drop (a+n)=(l.drop a).drop n:=by rw [List.drop_drop]
 rw [List.append_assoc,g,List.take_append_drop,List.take_append_drop]
theorem MH (h:Conc E G fr st a w) {t:TypeId} {x y:Operand} (ho:o.op= .store t x y) (hi:aW P mu gs o=some i) (T:aj P i rs fr st=some (fr',st',p)) (hp:p) (hk:Then E fr' st' K):o.wp P a w K Q:=by
 unfold aW at hi;rw [ho] at hi;simp only at hi;split at hi
 ·rename_i x' y' inf hd hx hy hinf
  cases hi
  have go: ∀{g off:Nat} {ty:TypeId} {vs:Array Value} {xs:List AV} {u:AV},y'.ev fr=some u→u.vcells=some xs→xs.length=inf.size→a.eval x= .pointer (some ⟨g,off,none⟩)→w.heap[g]? =some (.cells vs ty (0,0))→(xs≠ []→off+xs.length≤vs.size)→
    (xs= []→K a w)→(xs≠ []→ ∀us:List Value,us.length=xs.length→RelL G.σ us (xs.map AV.unown)→TagsOk G us xs→K a (w.setRow g (vs.toList.take off++us++vs.toList.drop (off+us.length)).toArray))→o.wp P a w K Q:=by
   intro g off ty vs xs u hyv hc hlen I hg hle k0 k1;obtain ⟨hr1,ht1⟩:=(h.ev hy hyv).cells hc;have J:(a.eval y).cells.toList.length=xs.length:=by simpa using hr1.1
   have hlen' :(a.eval y).cells.size=inf.size:=by simp at J;omega
   by_cases r:xs= []
   ·subst r
    have hz:(a.eval y).cells.toList= []:=List.eq_nil_of_length_eq_zero (by simpa using J);have hz2:inf.size=0:=by rw [←hlen'];simpa using congrArg List.length hz
    have hrun:(execOp a.eval o).run P w= .ok .skip w:=by
     simp [execOp,ho,I,Instr.storeAt,Instr.sureAddr,storeVar,sizeOf,typeInfo,hinf,hlen',hz,hz2,storeCells]
    unfold Oper.wp;rw [hrun,Oper.upon_skip,hd];exact k0 rfl
   ·have hst:=run_storeCells_at P g off ty (a.eval y).cells.toList 0 vs w hg (by have:=hle r;simp at J⊢;omega) hr1.one
    have hrun:(execOp a.eval o).run P w= .ok .skip (w.setRow g (vs.toList.take off++(a.eval y).cells.toList++vs.toList.drop (off+(a.eval y).cells.toList.length)).toArray):=by
     simp only [Nat.add_zero] at hst;simp only [execOp,ho,I,Instr.storeAt,Instr.sureAddr,storeVar,sizeOf,typeInfo,Sem.run_bind,run_program,Result.andThen_ok,hinf,Sem.run_pure,hlen',ne_eq,not_true_eq_false,if_false,hst]
    unfold Oper.wp;rw [hrun,Oper.upon_skip,hd];exact k1 r _ J hr1 ht1
  simp only [aj] at T;split at T
  ·rename_i id esz C k c u hxv hyv
   split at T
   ·rename_i xs cs hc hb
    split at T
    ·rename_i c' hlen hsp
     cases T;obtain ⟨hcl,hce⟩:=hp;have hlen:=Nat.eq_of_beq_eq_true hlen;obtain ⟨_,g0,I,hg0⟩:=h.ev hx hxv;obtain ⟨hb,hmp⟩:=az hb;obtain ⟨g,hB,hge,ty,vs,hg,R,htg,hfz⟩:=h.box id cs false hb;replace hg:=hg.cells hmp;rw [←hg0 g hB] at I;obtain ⟨q1,q2,q3⟩:=dg hsp;have hvl:vs.size=cs.length:=by have:=R.1;simpa using this
     have hfit:xs≠ []→C*esz+esz≤cs.length:=fun r=>by
      have h1:=q2 r;have h2:((cs.drop (C*esz)).take esz).length=esz:=by rw [hce];exact hcl
      rw [gA7,gA6] at h2;have:0<xs.length:=by cases xs with|nil=>exact absurd rfl r|cons _ _=>simp
      omega
     refine go hyv hc hlen I hg (fun r=> ?_) (fun he=> ?_) fun r us J hr ht=> ?_
     ·have h1:=q2 r;have h2:=hfit r;omega
     ·subst he
      have e1:c' =c:=by rw [q1];simp
      rw [e1] at hk;rw [show cs.take (C*esz)++c++cs.drop (C*esz+esz)=cs by rw [←hce];exact uP cs _ _] at hk;exact hk _ _ _ (h.rebox hb)
     ·have h1:=q2 r
      have h2:=hfit r;refine hk _ _ _ (h.write hb hB hge hg hfz ?_ ?_)
      ·have e2:cs.take (C*esz)++c' ++cs.drop (C*esz+esz)=cs.take (C*esz+k)++xs++cs.drop (C*esz+k+xs.length):=by
        rw [q1,←hce,List.take_take,List.drop_take,List.drop_drop,Nat.min_eq_left (by omega)];rw [show C*esz+(k+xs.length)=C*esz+k+xs.length by omega,List.take_add (i:=C*esz) (j:=k)];simp only [List.append_assoc];congr 3;have:=List.take_append_drop (esz-(k+xs.length)) (cs.drop (C*esz+k+xs.length));rw [List.drop_drop,show C*esz+k+xs.length+(esz-(k+xs.length))=C*esz+esz by omega] at this;exact this
       rw [e2,←J];simp only [List.map_append,List.map_take,List.map_drop];exact ((R.take _).append hr).append (R.drop _)
      ·have e2:cs.take (C*esz)++c' ++cs.drop (C*esz+esz)=cs.take (C*esz+k)++xs++cs.drop (C*esz+k+xs.length):=by
        rw [q1,←hce,List.take_take,List.drop_take,List.drop_drop,Nat.min_eq_left (by omega)];rw [show C*esz+(k+xs.length)=C*esz+k+xs.length by omega,List.take_add (i:=C*esz) (j:=k)];simp only [List.append_assoc];congr 3;have:=List.take_append_drop (esz-(k+xs.length)) (cs.drop (C*esz+k+xs.length));rw [List.drop_drop,show C*esz+k+xs.length+(esz-(k+xs.length))=C*esz+esz by omega] at this;exact this
       rw [e2,←J];intro j v x hv U;have hvl2:vs.toList.length=cs.length:=by simpa using hvl
       by_cases hj:j<C*esz+k
       ·rw [List.append_assoc,gC1 (by rw [gA7];omega),List.getElem?_take,if_pos hj] at hv U
        exact htg j v x hv U
       ·rw [List.append_assoc,gC2 (by rw [gA7];omega),gA7] at hv U
        rw [show min (C*esz+k) vs.toList.length=C*esz+k by omega] at hv;rw [show min (C*esz+k) cs.length=C*esz+k by omega] at U;by_cases hj2:j-(C*esz+k)<us.length
        ·rw [gC1 hj2] at hv
         rw [gC1 (by omega)] at U;exact ht _ v x hv U
        ·rw [gC2 (by omega),List.getElem?_drop] at hv
         rw [gC2 (by omega),List.getElem?_drop] at U;exact htg _ v x hv (by rw [←U,J])
    ·cases T
   ·cases T
  ·rename_i id off u hxv hyv
   split at T
   ·rename_i xs old hc hb
    split at T
    ·rename_i new hlen hsp
     cases T;obtain ⟨g,hB,I,_⟩:=h.ev hx hxv;obtain ⟨hb,hmp⟩:=az hb;obtain ⟨g',hB',hge,ty,vs,hg,R,htg,hfz⟩:=h.box id old false hb;replace hg:=hg.cells hmp;rw [hB] at hB';cases hB';have hlen:=Nat.eq_of_beq_eq_true hlen;obtain ⟨q1,q2,q3⟩:=dg hsp;have hvl:vs.size=old.length:=by have:=R.1;simpa using this
     refine go hyv hc hlen I hg (fun r=>by have:=q2 r;omega) (fun he=> ?_) fun r us J hr ht=> ?_
     ·subst he
      have hnew:new=old:=by rw [q1];simp
      subst hnew;exact hk _ _ _ (h.rebox hb)
     ·have hsp2:=R.splice htg hr ht hsp (by have:=q2 r;simp;omega)
      exact hk _ _ _ (h.write hb hB hge hg hfz hsp2.1 hsp2.2)
    ·cases T
   ·cases T
  ·rename_i id off u hxv hyv
   split at T
   ·rename_i xs old hc hb
    split at T
    ·rename_i new hlen hsp
     cases T;obtain ⟨_,_,g0,I,hg0⟩:=h.ev hx hxv;obtain ⟨hb,hmp⟩:=az hb;obtain ⟨g,hB,hge,ty,vs,hg,R,htg,hfz⟩:=h.box id old false hb;replace hg:=hg.cells hmp;rw [←hg0 g hB,dw hmp] at I;have hlen:=Nat.eq_of_beq_eq_true hlen;obtain ⟨q1,q2,q3⟩:=dg hsp;have hvl:vs.size=old.length:=by have:=R.1;simpa using this
     refine go hyv hc hlen I hg (fun r=>by have:=q2 r;omega) (fun he=> ?_) fun r us J hr ht=> ?_
     ·subst he
      have hnew:new=old:=by rw [q1];simp
      subst hnew;exact hk _ _ _ (h.rebox hb)
     ·have hsp2:=R.splice htg hr ht hsp (by have:=q2 r;simp;omega)
      exact hk _ _ _ (h.write hb hB hge hg hfz hsp2.1 hsp2.2)
    ·cases T
   ·cases T
  ·cases T
 ·cases hi
theorem cg {σ:Sg} {v:Value} {f:FuncId} {cap:List AV} (h:Rel1 σ v (.fn f cap)): ∃us:List Value,v= .func (.func f) #[] us.toArray∧RelL σ us cap:=by
 cases h with
 |fn f cap us hl g hg hr=>exact ⟨us,rfl,hl,fun j v x i p=>by rw [hg j v i];exact hr j x p⟩
theorem RelP.of1 {σ:Sg} {v:Value} {c:AV} (h:Rel1 σ v c):RelP σ v c:=by cases c<;>first|exact h|cases h
theorem RelS.ofR {v:Value} {r:AV} (h:RelR G.σ v r):RelS G v r:=by
 cases r<;>first
  |exact RelS.of1 h
  |exact RelS0.ofTup h
  |(obtain ⟨us,i,g⟩:=h;exact ⟨us,i,by rw [g.map_unown];exact g,g.tags⟩)
theorem dX (h:Conc E G fr st a w): ∀{xs:List Operand} {ts:List TypeId} {ys:List Opd} {as C:List AV},bS P xs ts=some ys→evs fr ys=some as→ez as=some C→RelPs G.σ (xs.map a.eval) C
 | [],ts,ys,as,C,g,i,p=>by cases g;cases i;cases p;exact ⟨rfl,fun j v x r=>by simp at r⟩
 |x::xs,ts,ys,as,C,g,i,p=>by
  unfold bS at g;split at g
  ·rename_i y T hy I
   cases g;unfold evs at i;split at i
   ·rename_i c U hc has
    cases i;unfold ez at p;split at p
    ·rename_i b bs' hb J
     cases p;have ih:=dX h I has J;have h0:=(h.ev hy hc).arg hb;refine ⟨by simp [ih.1],fun j v z r R=> ?_⟩;cases j with
     |zero=>simp at r R;subst r R;exact h0
     |succ j=>exact ih.2 j v z (by simpa using r) (by simpa using R)
    ·cases p
   ·cases i
  ·cases g
theorem Conc.anew0 (h:Conc E G fr st a w) {d:Nat} (hd:d<E.n) (J:fr d=none) {g cap esz:Nat} {rows:List (List AV)} (P:E.own g) (hr:FRowW G.σ w g cap esz rows) (hB: ∀id,G.B id≠some g) (hρ: ∀s r,G.ρ s (st.row s)=some r→r.g≠g) (U: ∀k x,G.φ k=some x→x.g≠g)
  {v:Value} {y:AV} (hy:RelS {G with φ:=upd G.φ d (some ⟨g,cap,esz,rows⟩)} v y):Conc E {G with φ:=upd G.φ d (some ⟨g,cap,esz,rows⟩)} (aG fr d y) st (a.put (some d) v) w:=by
 have hn:=h.pnone d J
 have C:G.le {G with φ:=upd G.φ d (some ⟨g,cap,esz,rows⟩)}:=⟨Sg.le.refl _,fun _ _ _ h=>h,fun k x i=>by
  simp only;rw [ax,if_neg (fun e=>by rw [e,hn] at i;cases i)];exact i,fun _ _ _ h=>h⟩
 refine {
  defers:=by rw [od];exact h.defers
  size:=by rw [uO];exact h.size
  slots:=fun s y p=> ?_
  hold:=h.hold
  ext:=h.ext
  below:=h.below
  box:=fun id cs fz p=> ?_
  bnone:=h.bnone
  binj:=h.binj
  row:=h.row
  rinj:=h.rinj
  rlt:=h.rlt
  phi:=fun k x i=> ?_
  phinj:=fun k k' x x' i j R=> ?_
  pnone:=fun k i=> ?_
  small:=h.small
  keep:=h.keep}
 ·rw [uN a _ s (by rw [h.size];exact hd)]
  unfold aG at p;rw [ax] at p;by_cases I:s=d
  ·rw [if_pos I] at p⊢
   cases p;exact hy
  ·rw [if_neg I] at p⊢
   exact (h.slots s y p).mono C fun _ _ _ _ hg=>hg
 ·obtain ⟨g',h1,h2,t',T,h3,h4,h5,h6⟩:=h.box id cs fz p
  exact ⟨g',h1,h2,t',T,h3,h4,h5.mono C,h6⟩
 ·simp only at i
  rw [ax] at i;split at i
  ·cases i
   exact ⟨⟨P,hr⟩,hB,hρ⟩
  ·exact h.phi k x i
 ·simp only at i j
  rw [ax] at i j;split at i
  ·rename_i e
   split at j
   ·rename_i e';rw [e,e']
   ·cases i;exact absurd R.symm (U _ _ j)
  ·split at j
   ·cases j;exact absurd R (U _ _ i)
   ·exact h.phinj k k' x x' i j R
 ·unfold aG at i
  rw [ax] at i;split at i
  ·cases i
  ·rename_i e
   simp only;rw [ax,if_neg e];exact h.pnone k i
theorem Conc.anew (h:Conc E G fr st a w) {d:Nat} (p:d<E.n) (i:fr d=none) {g cap esz:Nat} {rows:List (List AV)} (j:E.own g) (hr:FRowW G.σ w g cap esz rows) (C: ∀id,G.B id≠some g) (I: ∀s r,G.ρ s (st.row s)=some r→r.g≠g) (J: ∀k x,G.φ k=some x→x.g≠g):
  ∃G',Conc E G' (aG fr d (.frs d esz rows)) st (a.put (some d) (.slice (some ⟨g,0,none⟩) rows.length cap)) w:=
 ⟨_,h.anew0 p i j hr C I J (y:= .frs d esz rows) ⟨.top _ rfl,g,cap,cf _ _ _,rfl⟩⟩
theorem Conc.give (h:Conc E G fr st a w) {id g:Nat} {x:List AV×Bool} (hid:1000000≤id) (hb:st.box id=some x) (hB:G.B id=some g) (hge:E.own g) (hfree: ∀j,G.σ g j=none) {w' :World} (p:BelowBut g w w') {σ' :Sg} (T:Ext G.σ σ' w.heap.size) (hh:Holds σ' w'):
  Conc E {G with σ:=σ',B:=upd G.B id none} fr {st with box:=upd st.box id none} a w' :=by
 have hle:G.le {G with σ:=σ',B:=upd G.B id none}:=⟨T.1,fun _ _ _ h=>h,fun _ _ h=>h,fun id' g' _ hg=>by
  simp only at hg;rw [ax] at hg;split at hg
  ·cases hg
  ·exact hg⟩
 have C: ∀id' g',upd G.B id none id' =some g' →id' ≠id∧G.B id' =some g' :=fun id' g' hg=>by
  rw [ax] at hg;split at hg
  ·cases hg
  ·rename_i e;exact ⟨e,hg⟩
 have hσ: ∀b,b<w.heap.size→ ∀j,σ' b j=G.σ b j:=fun b hb j=>T.2 b j hb
 refine {
  defers:=h.defers
  size:=h.size
  slots:=fun s y I=> ?_
  hold:=hh
  ext:=h.ext.trans (T.toK fun _=>False) h.lt (fun _ h=>False.elim h)
  below:=h.below.trans (K' :=fun b=>b=g) ⟨p.os,p.tape,p.output,p.size,fun k hk hn=>p.block k hk hn⟩ (by rintro x rfl;exact hge.symm)
  box:=fun id' cs fz I=> ?_
  bnone:=fun id' I=> ?_
  binj:=fun id1 id2 g' h1 R=>h.binj id1 id2 g' (C _ _ h1).2 (C _ _ R).2
  row:=fun s r I=> ?_
  rinj:=h.rinj
  rlt:=h.rlt
  phi:=fun k x hk=> ?_
  phinj:=h.phinj
  pnone:=h.pnone
  small:=h.small
  keep:=fun id g R hg=>h.keep id g R (C _ _ hg).2}
 ·exact (h.slots s y I).mono2 hle fun id' g' i hg=>by
   simp only;rw [ax,if_neg (by omega)];exact hg
 ·simp only at I
  rw [ax] at I;split at I
  ·cases I
  ·rename_i e
   obtain ⟨U,k1,k2,t2,vs2,k3,k4,k5,k6⟩:=h.box id' cs fz I;have i:=k3.lt;have J:U≠g:=fun e' =>e (h.binj id' id g (e' ▸k1) hB)
   refine ⟨U,by simp only;rw [ax,if_neg e];exact k1,k2,t2,vs2,k3.of (p.block U i J),k4.mono T.1,k5.mono hle,?_⟩;cases fz with
   |true=>exact fun j v hv=>T.1 _ _ _ (k6 j v hv)
   |false=>exact fun j=>by rw [show ({G with σ:=σ',B:=upd G.B id none}:Gho).σ U j=σ' U j from rfl,hσ U i];exact k6 j
 ·simp only at I⊢
  rw [ax] at I⊢;split at I
  ·rename_i e;rw [if_pos e]
  ·rename_i e;rw [if_neg e];exact h.bnone id' I
 ·obtain ⟨⟨h1,e,cur,h3,h4,h5,h8⟩,h9⟩:=h.row s r I
  have i:=ea h3;have J:r.g≠g:=fun e' =>h9 id (e' ▸hB)
  exact ⟨⟨h1,e,cur,by rw [p.block r.g i J];exact h3,h4,h5,fun j hj=>by rw [show ({G with σ:=σ',B:=upd G.B id none}:Gho).σ r.g j=σ' r.g j from rfl,hσ r.g i];exact h8 j hj⟩,fun id' P=>h9 id' (C _ _ P).2⟩
 ·obtain ⟨⟨h1,R⟩,h3,h4⟩:=h.phi k x hk
  have i:=R.lt;have J:x.g≠g:=fun e' =>h3 id (e' ▸hB)
  exact ⟨⟨h1,R.on T.1 (p.block _ i J) fun j=>by rw [show ({G with σ:=σ',B:=upd G.B id none}:Gho).σ x.g j=σ' x.g j from rfl,hσ x.g i];exact R.free j⟩,fun id' P=>h3 id' (C _ _ P).2,h4⟩
theorem cR {c:Call} {f:Operand} (J:o.op= .call c) (R:c.callee= .value f) {i:FuncId} {us:List Value} (g:ab P i=true) (r:a.eval f= .func (.func i) #[] us.toArray):
  (execOp a.eval o).run P w= .ok (.enter i (c.args.toList.map a.eval++us).toArray) w:=by
 unfold ab at g;cases p:P.funcs[i]? with
 |none=>rw [p] at g;cases g
 |some fn=>
  rw [p] at g;simp only [gA9,bne_iff_ne,ne_eq] at g
  have C:(fn.name== "runtime.NumGoroutine")=false:=by simpa using g.2
  have I:fn.body.isNone=false:=by cases hb:fn.body<;>simp_all
  have j:(c.args.map a.eval)=(c.args.toList.map a.eval).toArray:=Array.ext' (by simp);simp only [execOp,J,resolve,R,r,Deferred.ofValue,Sem.run_bind,Sem.run_pure,Result.andThen_ok,invoke,callFunc,run_program,p,C,I,Bool.false_eq_true,if_false];rw [j];simp
theorem RelPs.append {σ:Sg} {vs us:List Value} {p cap:List AV} (h:RelPs σ vs p) (r:RelL σ us cap):RelPs σ (vs++us) (p++cap):=by
 refine ⟨by simp [h.1,r.1],fun j v z g i=> ?_⟩;by_cases C:j<vs.length
 ·rw [gC1 C] at g
  rw [gC1 (by rw [←h.1];exact C)] at i;exact h.2 j v z g i
 ·rw [gC2 (by omega)] at g
  rw [gC2 (by rw [←h.1];omega),←h.1] at i;exact RelP.of1 (r.2 _ v z g i)
theorem ux (h:Conc E G fr st a w) {c:Call} {f:Operand} (T:o.op= .call c) (U:c.callee= .value f) {g:FuncId} {cap I:List AV} {r:AV} {us:List Value} (j:a.eval f= .func (.func g) #[] us.toArray) (p:RelL G.σ us cap)
  (hrel:RelPs G.σ (c.args.toList.map a.eval) I) (i:AC P g (I++cap) r) (hn: ∀d,o.dst=some d→d<E.n) (J:Then E (match o.dst with|some d=>aG fr d r|none=>fr) st K):o.wp P a w K Q:=by
 unfold Oper.wp;rw [cR T U i.cb j,Oper.upon_enter];refine (i.run G.σ w _ h.hold (hrel.append p) (E.gwb h.below)).mono fun e w' ⟨σ',v,he,hx,hh,hb,hr⟩=> ?_
 subst he;have R:=h.world hb hx hh;cases C:o.dst with
 |none=>exact J {G with σ:=σ' } a w' (by rw [C];exact R)
 |some d=>
  refine J {G with σ:=σ' } (a.put (some d) v) w' ?_;rw [C];exact R.put (hn d C) (RelS.ofR hr)
theorem FP (h:Conc E G fr st a w) {c:Call} {f:Operand} (ho:o.op= .call c) (hc:c.callee= .value f) {i:FuncId} {cap U:List AV} {esz:Nat} {rows:List (List AV)} {us:List Value} (p:a.eval f= .func (.func i) #[] us.toArray) (C:RelL G.σ us cap)
  (hrel:RelPs G.σ (c.args.toList.map a.eval) U) (j:MF P i (U++cap) esz rows) {d:Nat} (hd:o.dst=some d) (I:fr d=none) (hn: ∀d,o.dst=some d→d<E.n) (J:Then E (aG fr d (.frs d esz rows)) st K):o.wp P a w K Q:=by
 unfold Oper.wp;rw [cR ho hc j.cb p,Oper.upon_enter];refine (j.run G.σ w _ h.hold (hrel.append C) (E.gwb h.below)).mono fun e w' ⟨σ',g,cp,he,hx,hh,hb,R,hr⟩=> ?_
 subst he;have h2:=h.world hb hx hh;obtain ⟨G',T⟩:=h2.anew (hn d hd) I (.inl (gB7 h.lt R)) hr (fun id hid=>by have:=h.Blt id g hid;omega) (fun s r hs e=>by have:=h.ρlt s r hs;omega) (fun k x J e=>by have:=((h.phi k x J).1.2).lt;omega);rw [hd];exact J _ _ _ T
theorem KV (h:Conc E G fr st a w) {c:Call} {f:Operand} (ho:o.op= .call c) (hc:c.callee= .value f) {p:FuncId} {cap bs as:List AV} {esz:Nat} {rows:List (List AV)} {us:List Value} (J:a.eval f= .func (.func p) #[] us.toArray) (i:RelL G.σ us cap)
  (hrel:RelPs G.σ (c.args.toList.map a.eval) bs) (C:MT P p (bs++cap) esz rows as) {d:Nat} (hd:o.dst=some d) (R:fr d=none) (hn: ∀d,o.dst=some d→d<E.n) (T:Then E (aG fr d (.tup (.frs d esz rows::as))) st K):o.wp P a w K Q:=by
 unfold Oper.wp;rw [cR ho hc C.cb J,Oper.upon_enter];refine (C.run G.σ w _ h.hold (hrel.append i) (E.gwb h.below)).mono fun e w' ⟨σ',g,cp,us,he,i,I,hh,hb,U,hr⟩=> ?_
 subst he;have h2:=h.world hb I hh;rw [hd];refine T _ _ _ (h2.anew0 (hn d hd) R (.inl (gB7 h.lt U)) hr (fun id hid=>by have:=h.Blt id g hid;omega) (fun s r hs e=>by have:=h.ρlt s r hs;omega) (fun k x T e=>by have:=((h.phi k x T).1.2).lt;omega) ?_);refine ⟨_,rfl,by simp [i.1],fun j u x hu I=> ?_⟩;cases j with
 |zero=>cases hu;cases I;exact ⟨.top _ rfl,g,cp,cf _ _ _,rfl⟩
 |succ j=>exact .of (i.2 j u x (by simpa using hu) (by simpa using I))
theorem RowsOk.flat {esz:Nat} {rows:List (List AV)} (h:RowsOk esz rows):rows.flatten.length=rows.length*esz∧rows.flatten.map AV.unown=rows.flatten:=by
 obtain ⟨_,h⟩:=h
 induction rows with
 |nil=>simp
 |cons x l ih=>
  obtain ⟨g,i⟩:=ih fun c j=>h c (by simp [j])
  obtain ⟨p,r⟩:=h x (by simp);constructor
  ·rw [List.flatten_cons,gA5,gA3,g,p,gC3];omega
  ·rw [List.flatten_cons,List.map_append,i,r]
theorem RowsOk.at_ {esz:Nat} {rows:List (List AV)} (h:RowsOk esz rows) {i:Nat} {c:List AV} (g:rows[i]? =some c) {j:Nat} {x:AV} (p:c[j]? =some x):rows.flatten[i*esz+j]? =some x:=by
 obtain ⟨_,h⟩:=h
 induction rows generalizing i with
 |nil=>simp at g
 |cons y l ih=>
  have hy:=(h y (by simp)).1;rw [List.flatten_cons];cases i with
  |zero=>
   simp at g;subst g;rw [Nat.zero_mul,Nat.zero_add,gC1 (gA0 p).1];exact p
  |succ i=>
   rw [gC2 (by rw [hy,gC3];omega),hy,show (i+1)*esz+j-esz=i*esz+j by rw [gC3];omega];exact ih (by simpa using g) fun c g=>h c (by simp [g])
theorem FRowW.ofBox (h:Conc E G fr st a w) {id g cap esz:Nat} {cs:List AV} {rows:List (List AV)} (hb:st.box id=some (cs,false)) (hmp:cC id=false) (T:G.B id=some g) (C: ∃sp,cs=rows.flatten++sp) (hl:cs.length=cap*esz) (hro:RowsOk esz rows):FRowW G.σ w g cap esz rows∧E.own g:=by
 obtain ⟨g',p,I,ty,vs,hg,hr,_,J⟩:=h.box id cs false hb;replace hg:=hg.cells hmp;rw [T] at p;cases p;obtain ⟨sp,rfl⟩:=C;obtain ⟨i,P⟩:=hro.flat
 have R:vs.size=cap*esz:=by
  have r:vs.toList.length=((rows.flatten++sp).map AV.unown).length:=hr.1;rw [List.length_map,hl] at r;simpa using r
 refine ⟨⟨ty,vs,hg,R,?_,fun c U=>(hro.2 c U).1,?_,hr.one,fun j=>J j⟩,I⟩
 ·have r:rows.length*esz≤cap*esz:=by rw [←i,←hl];simp
  exact Nat.le_of_mul_le_mul_right r hro.1
 ·have:=hr.take (rows.length*esz)
  rw [←List.map_take,←i,List.take_left,P] at this;rw [←i];exact this
theorem qu {xs:List Operand} {ts:List TypeId} {ys:List Opd} {c:AV} {as:List AV} (i:bS P xs ts=some ys) (j:evs fr ys=some (c::as)): ∃x p y g t r,xs=x::p∧be P t x=some y∧y.ev fr=some c∧bS P p r=some g∧evs fr g=some as:=by
 cases xs with
 |nil=>cases i;cases j
 |cons x xs=>
  unfold bS at i;split at i
  ·rename_i y g hy C
   cases i;unfold evs at j;split at j
   ·rename_i b I J has
    cases j;exact ⟨x,xs,y,g,_,_,rfl,hy,J,C,has⟩
   ·cases j
  ·cases i
theorem KW (h:Conc E G fr st a w) {c:Call} {f:Operand} (ho:o.op= .call c) (hc:c.callee= .value f) {I:FuncId} {cap bs cs:List AV} {id esz i:Nat} {rows rows' :List (List AV)} {us:List Value} (hfe:a.eval f= .func (.func I) #[] us.toArray) (hus:RelL G.σ us cap)
  {x:Operand} {xs:List Operand} (hxs:c.args.toList=x::xs) (hx0:RelS G (a.eval x) (.sli id esz rows.length i)) (hrel:RelPs G.σ (xs.map a.eval) bs) (p:st.box id=some (cs,false)) (hmp:cC id=false) (hcs: ∃sp,cs=rows.flatten++sp) (hl:cs.length=i*esz) (hro:RowsOk esz rows)
  (J:MR P I esz rows (bs++cap) rows') {d:Nat} (hd:o.dst=some d) (hfd:fr d=none) (hn: ∀d,o.dst=some d→d<E.n) (hk:Then E (aG fr d (.frs d esz rows')) {st with box:=upd st.box id none} K):o.wp P a w K Q:=by
 obtain ⟨_,hid,_,g0,hv,hg0⟩:=hx0;obtain ⟨g,C,R,_⟩:=h.box id cs false p;rw [←hg0 g C] at hv;obtain ⟨hF,_⟩:=FRowW.ofBox h p hmp C hcs hl hro;unfold Oper.wp;rw [cR ho hc J.cb hfe,Oper.upon_enter,hxs,List.map_cons,hv,List.cons_append];refine (J.run G.σ w g i _ h.hold hF (hrel.append hus) (E.gwb h.below)).mono fun e w' ⟨σ',g',cp,he,hx,hh,hb,j,hr⟩=> ?_
 subst he;have h2:=h.give hid p C R hF.free hb hx hh
 have hup: ∀id' g',upd G.B id none id' =some g' →id' ≠id∧G.B id' =some g' :=fun id' g' hg=>by
  rw [ax] at hg;split at hg
  ·cases hg
  ·rename_i e;exact ⟨e,hg⟩
 obtain ⟨G',hG'⟩:=h2.anew (hn d hd) hfd (g:=g') (by rcases j with e|e; ·rw [e];exact R
                                                    ·exact .inl (gB7 h.lt e)) hr
  (fun id' T=>by
   obtain ⟨k1,U⟩:=hup _ _ T;rcases j with e|e
   ·subst e;exact k1 (h.binj _ _ _ U C)
   ·have:=h.Blt id' g' U;omega)
  (fun s r hs e' =>by
   rcases j with e|e
   ·subst e;exact (h.row s r hs).2 id (by rw [e'];exact C)
   ·have:=h.ρlt s r hs;omega)
  (fun k x hk e' =>by
   obtain ⟨k1,U,k3⟩:=h.phi k x hk;rcases j with e|e
   ·subst e;exact U id (by rw [e'];exact C)
   ·have:=k1.2.lt;omega)
 rw [hd];exact hk _ _ _ hG'
theorem IQ {σ σ' :Sg} {v:Value} {r:AV} (C:r.flat=true) (h:RelR σ v r):RelR σ' v r:=by
 have one: ∀{u:Value} {x:AV},x.flat1=true→Rel1 σ u x→Rel1 σ' u x:=by
  intro u x i p;cases p with
  |int k n=>exact .int k n
  |bool b=>exact .bool b
  |str s=>exact .str s
  |_=>cases i
 have g: ∀{u:Value} {x:AV},x.flat1=true→RelP σ u x→RelP σ' u x:=by
  intro u x i p;cases x<;>first|exact one i p|cases i
 cases r with
 |tup l=>
  obtain ⟨vs,e,hl,hr⟩:=h;refine ⟨vs,e,hl,fun j u x p i=>g ?_ (hr j u x p i)⟩;exact List.all_eq_true.1 (show l.all AV.flat1=true from C) x (gA2 i)
 |int k n=>exact g (x:= .int k n) rfl h
 |bool b=>exact g (x:= .bool b) rfl h
 |str s=>exact g (x:= .str s) rfl h
 |_=>cases C
theorem KX (h:Conc E G fr st a w) {c:Call} {f:Operand} (ho:o.op= .call c) (hc:c.callee= .value f) {fid:FuncId} {cap bs cs:List AV} {id esz p:Nat} {rows:List (List AV)} {r:AV} {us:List Value} (hfe:a.eval f= .func (.func fid) #[] us.toArray) (hus:RelL G.σ us cap)
  {x:Operand} {xs:List Operand} (hxs:c.args.toList=x::xs) (hx0:RelS G (a.eval x) (.sli id esz rows.length p)) (hrel:RelPs G.σ (xs.map a.eval) bs) (hbx:st.box id=some (cs,false)) (hmp:cC id=false) (hcs: ∃sp,cs=rows.flatten++sp) (hl:cs.length=p*esz) (hro:RowsOk esz rows)
  (hfl:r.flat=true) (hAC:AC P fid (.lst .any esz rows::(bs++cap)) r) (hn: ∀d,o.dst=some d→d<E.n) (hk:Then E (match o.dst with|some d=>aG fr d r|none=>fr) st K):o.wp P a w K Q:=by
 obtain ⟨_,hid,hnc,g0,T,hg0⟩:=hx0;obtain ⟨g,hB,hge,_⟩:=h.box id cs false hbx;rw [←hg0 g hB] at T;obtain ⟨⟨ty,vs,hg,hvs,hcap,hrl,hr,hone,I⟩,_⟩:=FRowW.ofBox h hbx hmp hB hcs hl hro
 have hle:G.σ.le fun b q=>if b=g then vs[q]? else G.σ b q:=fun b q v T=>by
  have:b≠g:=fun e=>by rw [e,I] at T;cases T
  simp only [if_neg this];exact T
 have hh:Holds (fun b q=>if b=g then vs[q]? else G.σ b q) w:=fun b q v hq=>by
  simp only at hq;split at hq
  ·rename_i e
   subst e;rw [cell_of_row w b q vs ty (0,0) hg];exact hq
  ·exact h.hold b q v hq
 have h0:Rel1 (fun b q=>if b=g then vs[q]? else G.σ b q) (.slice (some ⟨g,0,none⟩) rows.length p) (.lst .any esz rows):=by
  refine .lst .any esz rows _ _ p g 0 (fun i j=>vs.getD (i*esz+j) undef) rfl hcap (fun _=>rfl) (fun i c hc=>hrl c (gA2 hc)) (fun i j hi hj=> ?_) (fun i j c x hc hx=> ?_) trivial
  ·have hlt:i*esz+j<vs.size:=by
    have U:(i+1)*esz≤p*esz:=Nat.mul_le_mul_right _ (by omega);rw [gC3] at U;omega
   simp only [if_true,Nat.zero_add];rw [Array.getElem?_eq_getElem hlt,Array.getD,dif_pos hlt];rfl
  ·have U:=hro.at_ hc hx
   obtain ⟨v,C,hv2⟩:=(hr.mono hle).at_ U;rw [List.getElem?_take] at C;split at C
   ·have:vs[i*esz+j]? =some v:=by simpa using C
    simp only [Array.getD_eq_getD_getElem?,this];exact hv2
   ·cases C
 have J:RelPs (fun b q=>if b=g then vs[q]? else G.σ b q) (a.eval x::(xs.map a.eval++us)) (.lst .any esz rows::(bs++cap)):=by
  have U:=(hrel.append hus).mono hle;refine ⟨by simp [U.1],fun j v z R hz=> ?_⟩;cases j with
  |zero=>simp at R hz;subst R hz;rw [T];exact RelP.of1 h0
  |succ j=>exact U.2 j v z (by simpa using R) (by simpa using hz)
 unfold Oper.wp;rw [cR ho hc hAC.cb hfe,Oper.upon_enter,hxs,List.map_cons,List.cons_append];refine (hAC.run _ w _ hh J (E.gwb h.below)).mono fun e w' ⟨σ',v,he,hx,hh',hb,hr'⟩=> ?_
 subst he;have h2:=h.same hb;have h3:=RelS.ofR (G:=G) (IQ (σ' :=G.σ) hfl hr');cases hd:o.dst with
 |none=>exact hk G a w' (by rw [hd];exact h2)
 |some d=>
  refine hk G (a.put (some d) v) w' ?_;rw [hd];exact h2.put (hn d hd) h3
theorem ec (a:AV):a.told.unown=a.unown:=by
 cases a<;>try rfl
 rename_i t esz l;cases t<;>rfl
theorem RelB1.ofP {σ:Sg} {B:Nat→Option Nat} {v:Value} {a:AV} (h:RelP σ v a):RelB1 σ B v a:=by
 cases a<;>first
  |exact h
  |cases (h:Rel1 _ _ _)
theorem Rel1.tagB {σ:Sg} {B:Nat→Option Nat} {v:Value} {a:AV} (h:Rel1 σ v a):TagB B v a:=by cases h<;>exact trivial
theorem RelB2.of1 {σ:Sg} {B:Nat→Option Nat} {v:Value} {a:AV} (h:RelB1 σ B v a):RelB2 σ B v a:=by
 unfold RelB2;split
 ·obtain ⟨vs,e,g⟩:=(h:RelP σ v (.agg _))
  exact ⟨vs,e,by rw [g.map_unown];exact g,fun j u x i p=>(g.2 j u x i p).tagB⟩
 ·exact h
theorem RelB2.ofP {σ:Sg} {B:Nat→Option Nat} {v:Value} {a:AV} (h:RelP σ v a):RelB2 σ B v a:= .of1 (.ofP h)
theorem aF {s:Nat}: ∀{l:List Nat},bO s l=true↔s∈l
 | []=>by simp [bO]
 |x::l=>by
  unfold bO;cases hb:Nat.beq x s with
  |true=>simp [Nat.eq_of_beq_eq_true hb]
  |false=>
   have:s≠x:=fun e=>by rw [e,Nat.beq_refl] at hb;cases hb
   simp [aF,this]
def inB (B:Nat→Option Nat) (ids:List Nat):Nat→Option Nat:=fun id=>match bO id ids with
 |true=>B id
 |false=>none
theorem aH {B:Nat→Option Nat} {ids:List Nat} {id g:Nat} (h:inB B ids id=some g):id∈ids∧B id=some g:=by
 unfold inB at h;split at h
 ·rename_i i;exact ⟨aF.1 i,h⟩
 ·cases h
theorem iC {B:Nat→Option Nat} {ids:List Nat} {id:Nat} (h:id∈ids):inB B ids id=B id:=by
 unfold inB;rw [aF.2 h]
theorem TagOk.toB {G:Gho} {v:Value} {a:AV} {ids:List Nat} (h:TagOk G v a):TagB (inB G.B ids) v a.told:=by
 cases a<;>first
  |exact trivial
  |(obtain ⟨p,g,i,j⟩:=h;exact ⟨g,i,fun g' hg=>j g' (aH hg).2⟩)
  |(obtain ⟨p,hn,g,i,j⟩:=h;exact ⟨hn,g,i,fun g' hg=>j g' (aH hg).2⟩)
  |(rename_i t _ _;cases t<;>exact trivial)
theorem mj (h:Conc E G fr st a w) (ids:List Nat): ∀{xs:List Operand} {ts:List TypeId} {ys:List Opd} {as T:List AV},bS P xs ts=some ys→evs fr ys=some as→iR as=some T→RelBs G.σ (inB G.B ids) (xs.map a.eval) T
 | [],ts,ys,as,T,r,C,i=>by cases r;cases C;cases i;exact ⟨rfl,fun j v x U=>by simp at U⟩
 |x::xs,ts,ys,as,T,r,C,i=>by
  unfold bS at r;split at r
  ·rename_i y ys' hy hys
   cases r;unfold evs at C;split at C
   ·rename_i c as' hc has
    cases C
    have key: ∃b R,T=b::R∧iR as' =some R∧RelB1 G.σ (inB G.B ids) (a.eval x) b:=by
     have I:=h.ev hy hc;unfold iR at i;split at i
     ·rename_i heq;cases heq
     ·rename_i id off l heq
      cases heq;split at i
      ·rename_i J p
       cases i;obtain ⟨_,_,g,r,C⟩:=I;exact ⟨_,_,rfl,p,g,r,fun g' hg=>C g' (aH hg).2⟩
      ·cases i
     ·rename_i id off l heq
      cases heq;split at i
      ·rename_i J p
       cases i;obtain ⟨g,r,C,i⟩:=I;exact ⟨_,_,rfl,p,g,C.trans (dw (uu i) _ _).symm,fun g' hg=>by have:=(aH hg).2;rw [r] at this;cases this;rfl⟩
      ·cases i
     ·rename_i id e n c' l heq
      cases heq;split at i
      ·rename_i J p
       cases i;obtain ⟨_,_,hn,g,r,C⟩:=I;exact ⟨_,_,rfl,p,hn,g,r,fun g' hg=>C g' (aH hg).2⟩
      ·cases i
     ·rename_i e k l heq
      cases heq;split at i
      ·rename_i J p
       cases i;exact ⟨_,_,rfl,p,I.1⟩
      ·cases i
     ·rename_i c' l _ _ _ _ heq
      cases heq;split at i
      ·rename_i b J hb p
       cases i;exact ⟨_,_,rfl,p,.ofP (I.arg hb)⟩
      ·cases i
    obtain ⟨b,R,rfl,hbs,h0⟩:=key;have ih:=mj h ids hys has hbs;refine ⟨by simp [ih.1],fun j v z U hz=> ?_⟩;cases j with
    |zero=>simp at U hz;subst U hz;exact h0
    |succ j=>exact ih.2 j v z (by simpa using U) (by simpa using hz)
   ·cases C
  ·cases r
theorem RelBs.append {σ:Sg} {B:Nat→Option Nat} {vs us:List Value} {p cap:List AV} (h:RelBs σ B vs p) (r:RelL σ us cap):RelBs σ B (vs++us) (p++cap):=by
 refine ⟨by simp [h.1,r.1],fun j v z g i=> ?_⟩;by_cases C:j<vs.length
 ·rw [gC1 C] at g
  rw [gC1 (by rw [←h.1];exact C)] at i;exact h.2 j v z g i
 ·rw [gC2 (by omega)] at g
  rw [gC2 (by rw [←h.1];omega),←h.1] at i;exact .ofP (RelP.of1 (r.2 _ v z g i))
theorem iT {b:Nat→Option (List AV×Bool)}: ∀{ids:List Nat} {S:List (Nat×List AV)},pj b ids=some S→aw S=ids∧ ∀x∈S,∃cs,b x.1=some (cs,false)∧x.2=cs.map AV.told
 | [],S,h=>by cases h;exact ⟨rfl,fun x g=>by cases g⟩
 |id::l,S,h=>by
  unfold pj at h;split at h
  ·rename_i cs r hb hr
   cases h;obtain ⟨i,j⟩:=iT hr;refine ⟨by show id::aw r=_;rw [i],fun x g=> ?_⟩;rcases gB2 g with rfl|g
   ·exact ⟨cs,hb,rfl⟩
   ·exact j x g
  ·cases h
theorem uQ: ∀{S:List (Nat×List AV)} {id:Nat} {cs:List AV},oc S id=some cs→(id,cs)∈S
 |(i,c)::l,id,cs,h=>by
  unfold oc at h;split at h
  ·rename_i hb;cases h;rw [Nat.eq_of_beq_eq_true hb];simp
  ·exact List.mem_cons_of_mem _ (uQ h)
theorem iU: ∀{S:List (Nat×List AV)} {id:Nat},oc S id=none→id∉aw S
 | [],id,_=>by simp [aw]
 |(i,c)::l,id,h=>by
  unfold oc at h;split at h
  ·cases h
  ·rename_i hb
   have:id≠i:=fun e=>by rw [e,Nat.beq_refl] at hb;cases hb
   have ih:=iU h;show id∉i::aw l;simp [this,ih]
theorem gC {ids:List Nat}: ∀{S:List (Nat×List AV)} {id:Nat},id∈au ids S↔id∈aw S∧id∉ids
 | [],id=>by simp [au,aw]
 |(i,c)::l,id=>by
  unfold au;have e:aw ((i,c)::l)=i::aw l:=rfl;rw [e];split
  ·rename_i j
   have j:=aF.1 j;rw [gC];constructor
   ·rintro ⟨g,p⟩;exact ⟨List.mem_cons_of_mem _ g,p⟩
   ·rintro ⟨g,p⟩
    rcases gB2 g with rfl|g
    ·exact absurd j p
    ·exact ⟨g,p⟩
  ·rename_i j
   have j:i∉ids:=fun e=>by rw [aF.2 e] at j;cases j
   rw [List.mem_cons,gC];constructor
   ·rintro (rfl|⟨g,p⟩)
    ·exact ⟨by simp,j⟩
    ·exact ⟨List.mem_cons_of_mem _ g,p⟩
   ·rintro ⟨g,p⟩
    rcases gB2 g with rfl|g
    ·exact .inl rfl
    ·exact .inr ⟨g,p⟩
theorem uR {b:Nat→Option (List AV×Bool)}: ∀{N:List Nat},bf b N=true→ ∀i∈N,b i=none∧1000000≤i∧i<2000000
 | [],_,i,hi=>by cases hi
 |x::l,h,i,hi=>by
  unfold bf at h;split at h
  ·rename_i hb
   simp only [gA9] at h;rcases gB2 hi with rfl|hi
   ·exact ⟨hb,Nat.le_of_ble_eq_true h.1.1,Nat.le_of_ble_eq_true h.1.2⟩
   ·exact uR h.2 i hi
  ·cases h
theorem uS: ∀a:AV,eZ [] a=a:=by intro a;cases a<;>rfl
theorem IR: ∀a:AV,DU [] a=a:=by
 intro a;cases a<;>try rfl
 rename_i cs;show AV.agg (cs.map (eZ []))=_;rw [show eZ []=id from funext uS,List.map_id]
theorem uT: ∀a:AV,Bo [] a=a:=by
 intro a;cases a<;>try rfl
 ·rename_i cs
  show AV.agg (cs.map (eZ []))=_;rw [show eZ []=id from funext uS,List.map_id]
 ·rename_i cs
  show AV.tup (cs.map (DU []))=_;rw [show DU []=id from funext IR,List.map_id]
theorem IS: ∀a:AV,IG [] a=a:=by
 intro a;cases a with
 |when c x=>show AV.when c (Bo [] x)=_;rw [uT]
 |agg cs=>exact uT (.agg cs)
 |tup cs=>exact uT (.tup cs)
 |_=>rfl
theorem uy (N:List Nat) (fr:Fr) (s:Nat):gB N fr s=(fr s).map (IG N):=by
 cases N with
 |nil=>
  show fr s=_;cases fr s with
  |none=>rfl
  |some a=>simp [IS]
 |cons i N=>
  show (match fr s with|some a=>some (IG (i::N) a)|none=>none)=_;cases fr s<;>rfl
theorem FQ (N:List Nat) (b:Nat→Option (List AV×Bool)) (k:Nat):jL N b k=(b k).map fun x=>(x.1.map (eZ N),x.2):=by
 cases N with
 |nil=>
  show b k=_;cases b k with
  |none=>rfl
  |some x=>simp [show eZ []=id from funext uS]
 |cons i N=>
  show (match b k with|some (ds,fz)=>some (ds.map (eZ (i::N)),fz)|none=>none)=_;cases b k<;>rfl
structure Gho.leN (N:List Nat) (G G' :Gho):Prop where
 σ:G.σ.le G'.σ
 ρ: ∀s v x,G.ρ s v=some x→G'.ρ s v=some x
 φ:G'.φ=G.φ
 B: ∀id g,1000000≤id→id∉N→G'.B id=some g→G.B id=some g
 lo: ∀id g,id<1000000→G.B id=some g→G'.B id=some g
theorem uU {N:List Nat} {G' :Gho} (i:G.leN N G') {v:Value} {x:AV} (h:Rel1 G.σ v x.unown∧TagOk G v x):Rel1 G'.σ v (eZ N x).unown∧TagOk G' v (eZ N x):=by
 have P: ∀{id:Nat},bO id N=false→id∉N:=fun e R=>by rw [aF.2 R] at e;cases e
 cases x with
 |np id off=>
  obtain ⟨j,I,g,p,C⟩:=h;simp only [eZ];cases J:bO id N with
  |true=>exact ⟨j.mono i.σ,trivial⟩
  |false=>exact ⟨j.mono i.σ,I,g,p,fun g' hg=>C g' (i.B _ _ I (P J) hg)⟩
 |sli id e n c=>
  obtain ⟨j,I,hn,g,p,C⟩:=h;simp only [eZ];cases J:bO id N with
  |true=>exact ⟨j.mono i.σ,trivial⟩
  |false=>exact ⟨j.mono i.σ,I,hn,g,p,fun g' hg=>C g' (i.B _ _ I (P J) hg)⟩
 |frs k e r=>
  obtain ⟨j,g,cap,p,C⟩:=h;exact ⟨j.mono i.σ,g,cap,by rw [i.φ];exact p,C⟩
 |lst t e l=>
  refine ⟨h.1.mono i.σ,?_⟩;cases t with
  |own s ver=>exact h.2.imp id fun ⟨g,cap,p,C⟩=>⟨g,cap,p,i.ρ _ _ _ C⟩
  |_=>exact trivial
 |_=>exact ⟨h.1.mono i.σ,trivial⟩
theorem mm {N:List Nat} {G' :Gho} (p:G.leN N G') {vs:List Value} {cs:List AV} (h:RelL G.σ vs (cs.map AV.unown)) (ht:TagsOk G vs cs):RelL G'.σ vs ((cs.map (eZ N)).map AV.unown)∧TagsOk G' vs (cs.map (eZ N)):=by
 have key: ∀(j:Nat) v b,vs[j]? =some v→cs[j]? =some b→_:=fun j v b i hb=>uU (v:=v) (x:=b) p ⟨h.2 j v _ i (by rw [gA8,hb];rfl),ht j v b i hb⟩
 refine ⟨⟨by have:=h.1;simpa using this,fun j v b i hb=> ?_⟩,fun j v b i hb=> ?_⟩
 ·rw [List.map_map,gA8] at hb
  cases g:cs[j]? with
  |none=>rw [g] at hb;cases hb
  |some c=>rw [g] at hb;cases hb;exact (key j v c i g).1
 ·rw [gA8] at hb
  cases g:cs[j]? with
  |none=>rw [g] at hb;cases hb
  |some c=>rw [g] at hb;cases hb;exact (key j v c i g).2
theorem IT {N:List Nat} {G' :Gho} (i:G.leN N G') {v:Value} {x:AV} (h:RelT G v x):RelT G' v (DU N x):=by
 have P: ∀{id:Nat},bO id N=false→id∉N:=fun e R=>by rw [aF.2 R] at e;cases e
 cases x with
 |np id off=>
  obtain ⟨j,I,g,p,C⟩:=h;simp only [DU,eZ];cases J:bO id N with
  |true=>exact (j.mono i.σ:Rel1 G'.σ v .top)
  |false=>exact ⟨j.mono i.σ,I,g,p,fun g' hg=>C g' (i.B _ _ I (P J) hg)⟩
 |sli id e n c=>
  obtain ⟨j,I,hn,g,p,C⟩:=h;simp only [DU,eZ];cases J:bO id N with
  |true=>exact (j.mono i.σ:Rel1 G'.σ v .top)
  |false=>exact ⟨j.mono i.σ,I,hn,g,p,fun g' hg=>C g' (i.B _ _ I (P J) hg)⟩
 |frs k e r=>
  obtain ⟨j,g,cap,p,C⟩:=h;exact ⟨j.mono i.σ,g,cap,by rw [i.φ];exact p,C⟩
 |agg cs=>
  obtain ⟨vs,e,j,p⟩:=h;obtain ⟨C,T⟩:=mm i j p;exact ⟨vs,e,C,T⟩
 |lst t e l=>
  have:=uU (v:=v) (x:= .lst t e l) i h;exact this
 |_=>exact RelT.of (RelP.mono i.σ (RelT.plain h rfl))
theorem Br {N:List Nat} {G' :Gho} (g:G.leN N G') {v:Value} {x:AV} (h:RelS0 G v x):RelS0 G' v (Bo N x):=by
 have T: ∀{id:Nat},bO id N=false→id∉N:=fun e U=>by rw [aF.2 U] at e;cases e
 have one: ∀x:AV,(Rel1 G.σ v x.unown∧TagOk G v x)→_:=fun x I=>uU (v:=v) (x:=x) g I
 cases x with
 |agg cs=>
  obtain ⟨vs,e,p,C⟩:=h;obtain ⟨J,h4⟩:=mm g p C;exact ⟨vs,e,J,h4⟩
 |pel i e j k c=>
  obtain ⟨p,g',C,J⟩:=h;simp only [Bo];cases P:bO i N with
  |true=>exact ⟨(by rw [C];exact .top _ rfl:Rel1 G'.σ v .top),trivial⟩
  |false=>exact ⟨p,g',C,fun R hg=>J R (g.B _ _ p (T P) hg)⟩
 |ptr i off=>
  obtain ⟨g',p,C,J⟩:=h;exact ⟨g',g.lo _ _ (by omega) p,C,J⟩
 |tup l=>
  obtain ⟨vs,e,p,C⟩:=h;refine ⟨vs,e,by rw [p,List.length_map],fun j u x hu I=> ?_⟩;rw [gA8] at I;cases hl:l[j]? with
  |none=>rw [hl] at I;cases I
  |some y=>rw [hl] at I;cases I;exact IT g (C j u y hu hl)
 |when c x=>exact h.elim
 |np id off=>
  have:=one _ h;simp only [Bo,eZ] at this⊢;split<;>(rename_i P;rw [P] at this;exact this)
 |sli i e n c=>
  have:=one _ h;simp only [Bo,eZ] at this⊢;split<;>(rename_i P;rw [P] at this;exact this)
 |frs k e r=>exact one _ h
 |int k n=>exact one _ h
 |bool b=>exact one _ h
 |str s=>exact one _ h
 |lst t e l=>exact one _ h
 |ro cs=>exact one _ h
 |fn f cap=>exact one _ h
 |raw v=>exact one _ h
 |top=>exact one _ h
theorem Bt {N:List Nat} {G' :Gho} (g:G.leN N G') {v:Value} {x:AV} (h:RelS G v x):RelS G' v (IG N x):=by
 have i: ∀{x:AV},RelS0 G' v x→RelS G' v x:=fun {x} h=>by cases x<;>first|exact h|exact h.elim
 cases x with
 |when c a=>exact ⟨fun j=>Br g (h.1 j),h.2⟩
 |_=>exact i (Br g (by simp only [RelS] at h;exact h))
theorem iV {σ' :Sg} {B' :Nat→Option Nat} {G' :Gho} {ids:List Nat} (hσ:G'.σ=σ') (J: ∀id∈ids,G'.B id=B' id) {v:Value} {r:AV} (p:r.told1 ids=true) (h:RelB2 σ' B' v r):RelS G' v r∧RelT G' v r:=by
 subst hσ
 have plain: ∀{r:AV},RelP G'.σ v r→RelS G' v r:=fun {r} h=>by
  cases r<;>first
   |exact RelS.of1 h
   |(obtain ⟨us,P,R⟩:=h;exact ⟨us,P,by rw [R.map_unown];exact R,R.tags⟩)
 cases r with
 |np id off=>
  simp only [AV.told1,gA9] at p;obtain ⟨g,C,I⟩:=h;have T:=aF.1 p.2;have:RelS G' v (.np id off):=⟨by rw [C];exact .top _ (FI _ _ _),Nat.le_of_ble_eq_true p.1,g,C,fun g' hg=>I g' (by rw [←J id T];exact hg)⟩
  exact ⟨this,this⟩
 |sli id e n c=>
  simp only [AV.told1,gA9] at p;obtain ⟨hn,g,C,I⟩:=h;have T:=aF.1 p.2;have:RelS G' v (.sli id e n c):=⟨by rw [C];exact .top _ rfl,Nat.le_of_ble_eq_true p.1,hn,g,C,fun g' hg=>I g' (by rw [←J id T];exact hg)⟩
  exact ⟨this,this⟩
 |frs k e r=>cases p
 |agg cs=>
  obtain ⟨us,P,C,I⟩:=h
  have ht:TagsOk G' us cs:=fun j u x hu hx=>by
   have i:x.inS ids=true:=List.all_eq_true.1 p x (gA2 hx);have h3:=I j u x hu hx;cases x with
   |np id off=>
    simp only [AV.inS,gA9] at i;obtain ⟨g,U,k2⟩:=h3;exact ⟨Nat.le_of_ble_eq_true i.1,g,U,fun g' hg=>k2 g' (by rw [←J id (aF.1 i.2)];exact hg)⟩
   |sli id e n c=>
    simp only [AV.inS,gA9] at i;obtain ⟨k0,g,U,k2⟩:=h3;exact ⟨Nat.le_of_ble_eq_true i.1,k0,g,U,fun g' hg=>k2 g' (by rw [←J id (aF.1 i.2)];exact hg)⟩
   |lst t e l=>cases t<;>first|exact trivial|cases i
   |frs k e r=>cases i
   |_=>exact trivial
  exact ⟨⟨us,P,C,ht⟩,⟨us,P,C,ht⟩⟩
 |tup l=>cases p
 |_=>exact ⟨plain h,RelT.of h⟩
theorem qv {σ' :Sg} {B' :Nat→Option Nat} {G' :Gho} {ids:List Nat} (g:G'.σ=σ') (i: ∀id∈ids,G'.B id=B' id) {v:Value} {r:AV} (p:(match r with| .tup l=>l.all (AV.told1 ids)|r=>r.told1 ids)=true) (h:RelB σ' B' v r):RelS G' v r:=by
 cases r with
 |tup l=>
  obtain ⟨vs,e,I,J⟩:=h;exact ⟨vs,e,I,fun j u x P C=>(iV g i (List.all_eq_true.1 p x (gA2 C)) (J j u x P C)).2⟩
 |_=>exact (iV g i p h).1
def inR (G:Gho) (row:Nat→Nat) (ks:List Nat):Nat→Option RowI:=fun k=>match bO k ks with
 |true=>G.ρ k (row k)
 |false=>none
theorem eA {row:Nat→Nat} {ks:List Nat} {k:Nat} {r:RowI} (h:inR G row ks k=some r):k∈ks∧G.ρ k (row k)=some r:=by
 unfold inR at h;split at h
 ·rename_i g;exact ⟨aF.1 g,h⟩
 ·cases h
theorem MI {row:Nat→Nat} {ks:List Nat} {k:Nat} (h:k∈ks):inR G row ks k=G.ρ k (row k):=by
 unfold inR;rw [aF.2 h]
theorem FR {ids:List Nat} {a:AV} (h:a.inS ids=true):a.inK [] ids=true:=by
 cases a<;>first|exact h|(rename_i t _ _;cases t<;>first|exact h|cases h)
theorem IU {ids:List Nat} {row:Nat→Nat} {a:AV} (h:a.inS ids=true):a.backK row=a:=by
 cases a<;>first|rfl|(rename_i t _ _;cases t<;>first|rfl|cases h)
theorem si (row:Nat→Nat) (a:AV):(a.backK row).unown=a.unown:=by
 cases a<;>first|rfl|(rename_i t _ _;cases t<;>rfl)
theorem ik (row:Nat→Nat) (ks:List Nat) (a:AV):(a.toldK row ks).unown=a.unown:=by
 cases a<;>first|rfl|(rename_i t _ _;cases t<;>first|rfl|(unfold AV.toldK;simp only;split<;>rfl))
theorem yB {row:Nat→Nat}: ∀{S:List (Nat×List AV)} {id:Nat},oc (kY row S) id=(oc S id).map (List.map (AV.backK row))
 | [],id=>rfl
 |(i,cs)::l,id=>by
  have ih:=yB (row:=row) (S:=l) (id:=id);unfold kY at ih⊢;rw [List.map_cons,oc,oc];cases Nat.beq i id with
  |true=>rfl
  |false=>exact ih
theorem Conc.handedK (h:Conc E G fr st a w) {ids ks ks' :List Nat} {S' :List (Nat×List AV)} {r:AV} (hall: ∀id∈ids,∃cs,st.box id=some (cs,false)) (hok:GL ids ks' S' r=true) (hfree:bf st.box (au ids S')=true)
  {σ' :Sg} {w' :World} {B' :Nat→Option Nat} {R' :Nat→Option RowI} (hx:ExtK (KBR (inB G.B ids) (inR G st.row ks)) G.σ σ' w.heap.size) (hh:Holds σ' w') (hb:BelowK (KBR (inB G.B ids) (inR G st.row ks)) w w') (hdom: ∀id g,B' id=some g→id∈aw S') (hinj: ∀id id' g,B' id=some g→B' id' =some g→id=id')
  (hrw:RowsW σ' w' B' R' ks') (hat:BoxesAtK σ' w' B' R' S') (hrange: ∀id g,B' id=some g→KBR (inB G.B ids) (inR G st.row ks) g∨w.heap.size≤g) (C: ∀k r,R' k=some r→KBR (inB G.B ids) (inR G st.row ks) r.g∨w.heap.size≤r.g) (hkept: ∀id g g',inB G.B ids id=some g→B' id=some g' →g=g'):
  ∃G',Conc E G' (gB (au ids S') fr) ⟨jM (jL (au ids S') st.box) ids (kY st.row S'),pi st.row ks ks'⟩ a w' ∧G'.σ=σ' ∧(∀id∈aw S',G'.B id=B' id)∧ ∀k∈ks',G'.ρ k (st.row k+1)=R' k:=by
 unfold GL at hok;simp only [gA9] at hok;obtain ⟨⟨ho1,ho2⟩,_⟩:=hok
 have hids: ∀id∈ids,∃cs g,st.box id=some (cs,false)∧G.B id=some g:=fun id hid=>by
  obtain ⟨cs,J⟩:=hall id hid;obtain ⟨g,R,_⟩:=h.box id cs false J;exact ⟨cs,g,J,R⟩
 generalize hKd:KBR (inB G.B ids) (inR G st.row ks)=K at*
 have hKB: ∀g,K g→(∃id∈ids,G.B id=some g)∨ ∃k r,k∈ks∧G.ρ k (st.row k)=some r∧r.g=g:=fun g hg=>by
  rw [←hKd] at hg;rcases hg with ⟨id,hid⟩|⟨k,r,h1,h2⟩
  ·exact .inl ⟨id,aH hid⟩
  ·exact .inr ⟨k,r,(eA h1).1,(eA h1).2,h2⟩
 have hown: ∀g,K g→E.own g:=fun g hg=>by
  rcases hKB g hg with ⟨id,hid,hB⟩|⟨k,r,_,h1,rfl⟩
  ·obtain ⟨cs,g',J,R⟩:=hids id hid
   obtain ⟨g2,U,k4,_⟩:=h.box id cs false J;rw [hB] at U;cases U;exact k4
  ·exact (h.row k r h1).1.1
 have hown' : ∀g,K g∨w.heap.size≤g→E.own g:=fun g hg=>by
  rcases hg with hg|hg
  ·exact hown g hg
  ·exact .inl (gB7 h.lt hg)
 have hNI: ∀i∈au ids S',st.box i=none∧1000000≤i∧i<2000000:=uR hfree
 let B2:Nat→Option Nat:=fun id=>if id∈aw S' then B' id else if id∈ids then none else G.B id
 let ρ2:Nat→Nat→Option RowI:=fun k v=>if (bO k ks||bO k ks')=true∧v=st.row k+1 then R' k else G.ρ k v
 have b1: ∀id,id∈aw S' →B2 id=B' id:=fun id hid=>if_pos hid
 have b2: ∀id g,B2 id=some g→(id∈aw S' ∧B' id=some g)∨(id∉aw S' ∧id∉ids∧G.B id=some g):=fun id g hg=>by
  simp only [B2] at hg;split at hg
  ·rename_i e;exact .inl ⟨e,hg⟩
  ·rename_i e
   split at hg
   ·cases hg
   ·rename_i e2;exact .inr ⟨e,e2,hg⟩
 have apart: ∀id g,id∉ids→G.B id=some g→ ¬(K g∨w.heap.size≤g):=fun id g hid hg T=>by
  rcases T with T|T
  ·rcases hKB g T with ⟨id',hid',hB⟩|⟨k,r,_,h1,rfl⟩
   ·have:=h.binj id id' g hg hB
    subst this;exact hid hid'
   ·exact (h.row k r h1).2 id hg
  ·have:=h.Blt id g hg;omega
 have old: ∀id g,B2 id=some g→(id∈aw S' ∧B' id=some g∧(K g∨w.heap.size≤g))∨(id∉ids∧G.B id=some g):=fun id g hg=>by
  rcases b2 id g hg with ⟨J,R⟩|⟨J,R,U⟩
  ·exact .inl ⟨J,R,hrange id g R⟩
  ·exact .inr ⟨R,U⟩
 have hnotK: ∀g,g<w.heap.size→ ¬K g→w'.heap[g]? =w.heap[g]? ∧ ∀j,σ' g j=G.σ g j:=fun g hg hn=>⟨hb.block g hg hn,fun j=>hx.2 g j hg hn⟩
 have hcur: ∀s r,ρ2 s (pi st.row ks ks' s)=some r→R' s=some r∨(s∉ks∧G.ρ s (st.row s)=some r):=fun s r p=>by
  simp only [ρ2,pi] at p;cases I:(bO s ks||bO s ks') with
  |true=>rw [I] at p;simp only [true_and,if_true] at p;exact .inl p
  |false=>
   rw [I] at p;simp only [Bool.false_eq_true,false_and,if_false] at p;rw [Bool.or_eq_false_iff] at I;exact .inr ⟨fun e=>(by rw [aF.2 e] at I;exact absurd I.1 (by simp)),p⟩
 have hapR: ∀s r,s∉ks→G.ρ s (st.row s)=some r→ ¬(K r.g∨w.heap.size≤r.g):=fun s r p h1 T=>by
  rcases T with T|T
  ·rcases hKB _ T with ⟨id,_,hB⟩|⟨k,r',hk,h2,e⟩
   ·exact (h.row s r h1).2 id hB
   ·have:=h.rinj k s r' r h2 h1 e
    subst this;exact p hk
  ·have:=h.ρlt s r h1;omega
 have hρle: ∀s v x,G.ρ s v=some x→ρ2 s v=some x:=fun s v x p=>by
  simp only [ρ2];rw [if_neg fun T=>by have:=h.rlt s v x p;omega];exact p
 have hle:G.leN (au ids S') {G with σ:=σ',B:=B2,ρ:=ρ2}:={
  σ:=hx.1
  ρ:=hρle
  φ:=rfl
  B:=fun id g hid hn hg=>by
   rcases b2 id g hg with ⟨J,R⟩|⟨J,R,U⟩
   ·by_cases I:id∈ids
    ·obtain ⟨cs,g0,q1,P⟩:=hids id I
     have:=hkept id g0 g (by rw [iC I];exact P) R;rw [←this];exact P
    ·exact absurd (gC.2 ⟨J,I⟩) hn
   ·exact U
  lo:=fun id g hid hg=>by
   show B2 id=some g;by_cases I:id∈ids
   ·have h1:=List.all_eq_true.1 ho1 id I
    have h2:Nat.ble 1000000 id=false:=by
     cases hq:Nat.ble 1000000 id with
     |false=>rfl
     |true=>have:=Nat.le_of_ble_eq_true hq;omega
    rw [h2,Bool.false_or] at h1;have h3:=aF.1 h1;rw [b1 id h3];obtain ⟨x,hx3,e⟩:=List.mem_map.1 h3;obtain ⟨g',t,vs,J,_⟩:=hat x.1 x.2 hx3;rw [e] at J;rw [J,←hkept id g g' (by rw [iC I];exact hg) J]
   ·have h3:id∉aw S' :=fun T=>by
     have:=(hNI id (gC.2 ⟨T,I⟩)).2.1;omega
    simp only [B2,if_neg h3,if_neg I];exact hg}
 have hput: ∀id,jM (jL (au ids S') st.box) ids (kY st.row S') id=(match oc S' id with
   |some cs=>some (cs.map (AV.backK st.row),false)
   |none=>if id∈ids then none else (st.box id).map fun x=>(x.1.map (eZ (au ids S')),x.2)):=fun id=>by
  unfold jM;rw [yB];cases oc S' id with
  |some cs=>rfl
  |none=>
   simp only [Option.map_none];cases I:bO id ids with
   |true=>rw [if_pos (aF.1 I)]
   |false=>rw [if_neg (fun e=>by rw [aF.2 e] at I;cases I),FQ]
 refine ⟨{G with σ:=σ',B:=B2,ρ:=ρ2},{
  defers:=h.defers
  size:=h.size
  slots:=fun s x p=> ?_
  hold:=hh
  ext:=h.ext.trans hx h.lt fun b hb=>(hown b hb).symm
  below:=h.below.trans hb fun b hb=>(hown b hb).symm
  box:=fun id cs fz p=> ?_
  bnone:=fun id p=> ?_
  binj:=fun id1 id2 g h1 h2=> ?_
  row:=fun s r p=> ?_
  rinj:=fun s s' r r' h1 h2 he=> ?_
  rlt:=fun s v x p=> ?_
  phi:=fun k x hk=> ?_
  phinj:=h.phinj
  pnone:=fun k hk=>h.pnone k (by
   rw [uy] at hk;cases hf:fr k with
   |none=>rfl
   |some y=>rw [hf] at hk;cases hk)
  small:=h.small
  keep:=fun id g h2 hg=> ?_},rfl,b1,fun k hk=>if_pos ⟨by rw [aF.2 hk,Bool.or_true],rfl⟩⟩
 ·rw [uy] at p
  cases hf:fr s with
  |none=>rw [hf] at p;cases p
  |some y=>rw [hf] at p;cases p;exact Bt hle (h.slots s y hf)
 ·rw [show (⟨jM (jL (au ids S') st.box) ids (kY st.row S'),pi st.row ks ks'⟩:St).box id=jM (jL (au ids S') st.box) ids (kY st.row S') id from rfl,hput] at p
  split at p
  ·rename_i cs' hg
   cases p;have I:=uQ hg;have hd:id∈aw S' :=List.mem_map.2 ⟨_,I,rfl⟩;obtain ⟨g,t,vs,J,R,U,k4,k5⟩:=hat id cs' I;refine ⟨g,by rw [←b1 id hd] at J;exact J,hown' g (hrange id g J),t,vs,R,by rw [List.map_map,show AV.unown∘AV.backK st.row=AV.unown from funext (si _)];exact U,fun j v c hv T=> ?_,fun j=>k5 j⟩;rw [gA8] at T;cases hc0:cs'[j]? with
   |none=>rw [hc0] at T;cases T
   |some c0=>
   rw [hc0] at T;cases T;have hin:=List.all_eq_true.1 (List.all_eq_true.1 ho2 _ I) c0 (gA2 hc0);have ht:=k4 j v c0 hv hc0;cases c0 with
   |np i o=>
    simp only [AV.inK,AV.inS,gA9] at hin;obtain ⟨g2,q1,P⟩:=ht.1;exact ⟨Nat.le_of_ble_eq_true hin.1,g2,q1,fun g' hg' =>P g' (by rw [←b1 i (aF.1 hin.2)];exact hg')⟩
   |sli i e n c=>
    simp only [AV.inK,AV.inS,gA9] at hin;obtain ⟨qn,g2,q1,P⟩:=ht.1;exact ⟨Nat.le_of_ble_eq_true hin.1,qn,g2,q1,fun g' hg' =>P g' (by rw [←b1 i (aF.1 hin.2)];exact hg')⟩
   |lst t e l=>cases t with
    |own k n=>
     rcases ht.2 with q|⟨g2,cap,q1,P⟩
     ·exact .inl q
     ·refine .inr ⟨g2,cap,q1,?_⟩
      simp only [ρ2];rw [if_pos ⟨by rw [show bO k ks' =true from hin,Bool.or_true],by trivial⟩];exact P
    |_=>trivial
   |frs k e r=>cases hin
   |_=>trivial
  ·rename_i hg
   have hd:=iU hg;split at p
   ·cases p
   ·rename_i I
    cases hbx:st.box id with
    |none=>rw [hbx] at p;cases p
    |some x=>
     rw [hbx] at p;cases p;obtain ⟨g,J,R,t,vs,U,k4,k5,k6⟩:=h.box id x.1 x.2 hbx;obtain ⟨q1,P⟩:=hnotK g U.lt fun T=>apart id g I J (.inl T)
     obtain ⟨q3,q4⟩:=mm hle k4 k5;refine ⟨g,by show B2 id=_;simp only [B2,if_neg hd,if_neg I];exact J,R,t,vs,U.of q1,q3,q4,?_⟩;cases hf:x.2 with
     |true=>rw [hf] at k6;exact fun j v hv=>hx.1 _ _ _ (k6 j v hv)
     |false=>rw [hf] at k6;exact fun j=>(P j).trans (k6 j)
 ·rw [show (⟨jM (jL (au ids S') st.box) ids (kY st.row S'),pi st.row ks ks'⟩:St).box id=jM (jL (au ids S') st.box) ids (kY st.row S') id from rfl,hput] at p
  show B2 id=none;split at p
  ·cases p
  ·rename_i hg
   have hd:=iU hg;simp only [B2,if_neg hd];split at p
   ·rename_i I;rw [if_pos I]
   ·rename_i I
    rw [if_neg I];cases hbx:st.box id with
    |none=>exact h.bnone id hbx
    |some x=>rw [hbx] at p;cases p
 ·rcases old id1 g h1 with ⟨J,R,U⟩|⟨J,R⟩<;>rcases old id2 g h2 with ⟨q1,P,q3⟩|⟨q1,P⟩
  ·exact hinj id1 id2 g R P
  ·exact absurd U (apart id2 g q1 P)
  ·exact absurd q3 (apart id1 g J R)
  ·exact h.binj id1 id2 g R P
 ·rcases hcur s r p with p|⟨hsk,p⟩
  ·obtain ⟨q1,P,q3,q4⟩:=hrw.at_ s r p
   refine ⟨⟨hown' r.g (C s r p),P⟩,fun id hid=> ?_⟩;rcases old id r.g hid with ⟨_,q,_⟩|⟨q,q'⟩
   ·exact q4 id q
   ·exact apart id r.g q q' (C s r p)
  ·obtain ⟨⟨J,e,cur,U,k4,k5,k8⟩,k9⟩:=h.row s r p
   have hn: ¬K r.g:=fun T=>hapR s r hsk p (.inl T)
   obtain ⟨q1,P⟩:=hnotK r.g (ea U) hn;refine ⟨⟨J,e,cur,by rw [q1];exact U,k4,k5,fun j hj=>(P j).trans (k8 j hj)⟩,fun id hid=> ?_⟩;rcases old id r.g hid with ⟨_,_,q⟩|⟨_,q⟩
   ·exact hapR s r hsk p q
   ·exact k9 id q
 ·rcases hcur s r h1 with q1|⟨p1,q1⟩<;>rcases hcur s' r' h2 with P|⟨p2,P⟩
  ·exact hrw.inj s s' r r' q1 P he
  ·exact absurd (he▸C s r q1) (hapR s' r' p2 P)
  ·exact absurd (he▸C s' r' P) (hapR s r p1 q1)
  ·exact h.rinj s s' r r' q1 P he
 ·simp only [ρ2] at p
  show v≤pi st.row ks ks' s;unfold pi;split at p
  ·rename_i T;rw [T.1];simp only;omega
  ·have:=h.rlt s v x p
   split<;>omega
 ·obtain ⟨⟨J,R⟩,U,k4⟩:=h.phi k x hk
  have hn: ¬K x.g:=fun T=>by
   rcases hKB _ T with ⟨id,_,hB⟩|⟨k',r',_,h2,e⟩
   ·exact U id hB
   ·exact k4 k' r' h2 e
  obtain ⟨q1,P⟩:=hnotK x.g R.lt hn;refine ⟨⟨J,R.on hx.1 q1 fun j=>(P j).trans (R.free j)⟩,fun id hid=> ?_,fun s r p e=> ?_⟩
  ·rcases old id x.g hid with ⟨_,_,q⟩|⟨_,q⟩
   ·rcases q with q|q
    ·exact hn q
    ·have:=R.lt;omega
   ·exact U id q
  ·rcases hcur s r p with q|⟨_,q⟩
   ·rcases C s r q with q|q
    ·exact hn (e▸q)
    ·have:=R.lt;omega
   ·exact k4 s r q e
 ·rcases b2 id g hg with ⟨J,R⟩|⟨J,R,U⟩
  ·by_cases I:id∈ids
   ·obtain ⟨cs,g0,q1,P⟩:=hids id I
    have:=hkept id g0 g (by rw [iC I];exact P) R;rw [←this];exact h.keep id g0 h2 P
   ·have:=(hNI id (gC.2 ⟨J,I⟩)).2.2;omega
  ·exact h.keep id g h2 U
theorem Conc.handed (h:Conc E G fr st a w) {ids:List Nat} {S S' :List (Nat×List AV)} {r:AV} (hS:pj st.box ids=some S) (I:okS ids S' r=true) (J:bf st.box (au ids S')=true)
  {σ' :Sg} {w' :World} {B' :Nat→Option Nat} (i:ExtK (fun b=> ∃id,inB G.B ids id=some b) G.σ σ' w.heap.size) (hh:Holds σ' w') (hb:BelowK (fun b=> ∃id,inB G.B ids id=some b) w w') (U: ∀id g,B' id=some g→id∈aw S') (hinj: ∀id id' g,B' id=some g→B' id' =some g→id=id')
  (hat:BoxesAt σ' w' B' S') (p: ∀id g,B' id=some g→(∃id',inB G.B ids id' =some g)∨w.heap.size≤g) (P: ∀id g g',inB G.B ids id=some g→B' id=some g' →g=g'):
  ∃G',Conc E G' (gB (au ids S') fr) ⟨jM (jL (au ids S') st.box) ids S',st.row⟩ a w' ∧G'.σ=σ' ∧ ∀id∈aw S',G'.B id=B' id:=by
 obtain ⟨hd1,hd2⟩:=iT hS;unfold okS at I;simp only [gA9] at I;obtain ⟨⟨ho1,R⟩,ho3⟩:=I
 have hK:KBR (inB G.B ids) (inR G st.row [])=fun b=> ∃id,inB G.B ids id=some b:=by
  funext b;refine propext ⟨fun hb=> ?_,fun hb=> .inl hb⟩;rcases hb with hb|⟨k,r,h1,_⟩
  ·exact hb
  ·cases h1
 have hbk:kY st.row S' =S' :=by
  unfold kY;refine (List.map_congr_left fun x i=> ?_).trans (List.map_id _);have:=List.all_eq_true.1 R x i;show (x.1,x.2.map (AV.backK st.row))=x;rw [(List.map_congr_left fun c C=>IU (List.all_eq_true.1 this c C):x.2.map (AV.backK st.row)=x.2.map id),List.map_id]
 have h13: ∀{r:AV},r.told1 (aw S')=true→r.told1K [] (aw S')=true:=fun {r} hr=>by
  cases r with
  |agg cs=>exact List.all_eq_true.2 fun c C=>FR (List.all_eq_true.1 hr c C)
  |lst t e l=>cases t<;>first|exact hr|cases hr
  |_=>exact hr
 have key:=h.handedK (ids:=ids) (ks:= []) (ks' := []) (S' :=S') (r:=r) (R' :=fun _=>none) (fun id hid=> ?_) ?_ J (hK▸i) hh (hK▸hb) U hinj ⟨fun k r h=>(by cases h),fun k k' r r' h=>(by cases h)⟩ (fun id cs hm=> ?_) (fun id g hg=>(p id g hg).imp (fun e=> .inl e) (fun e=>e)) (fun k r h=>(by cases h)) P
 ·rw [hbk] at key
  obtain ⟨G',T,k2,k3,_⟩:=key;exact ⟨G',T,k2,k3⟩
 ·rw [←hd1] at hid
  obtain ⟨x,i,e⟩:=List.mem_map.1 hid;obtain ⟨cs,T,_⟩:=hd2 x i;exact ⟨cs,by rw [e] at T;exact T⟩
 ·unfold GL
  simp only [gA9]
  exact ⟨⟨ho1,List.all_eq_true.2 fun x i=>List.all_eq_true.2 fun c C=>FR (List.all_eq_true.1 (List.all_eq_true.1 R x i) c C)⟩,by
   cases r with
   |tup l=>exact List.all_eq_true.2 fun x i=>h13 (List.all_eq_true.1 ho3 x i)
   |_=>exact h13 ho3⟩
 ·obtain ⟨g,t,vs,T,k2,k3,k4,k5⟩:=hat id cs hm
  refine ⟨g,t,vs,T,k2,k3,fun j v c hv C=>⟨k4 j v c hv C,?_⟩,k5⟩;have hin:=List.all_eq_true.1 (List.all_eq_true.1 R _ hm) c (gA2 C);cases c<;>first|trivial|(rename_i t _ _;cases t<;>first|trivial|cases hin)
theorem yC {ks:List Nat}: ∀{ids:List Nat} {S:List (Nat×List AV)},Bn st ks ids=some S→aw S=ids∧ ∀x∈S,∃cs,st.box x.1=some (cs,false)∧x.2=cs.map (AV.toldK st.row ks)
 | [],S,h=>by cases h;exact ⟨rfl,fun x g=>by cases g⟩
 |id::l,S,h=>by
  unfold Bn at h;split at h
  ·rename_i cs r hb hr
   cases h;obtain ⟨i,j⟩:=yC hr;refine ⟨by show id::aw r=_;rw [i],fun x g=> ?_⟩;rcases gB2 g with rfl|g
   ·exact ⟨cs,hb,rfl⟩
   ·exact j x g
  ·cases h
theorem TagOk.toK {v:Value} {a:AV} {ids ks:List Nat} (h:TagOk G v a):TagB (inB G.B ids) v (a.toldK st.row ks)∧sU (inR G st.row ks) v (a.toldK st.row ks):=by
 cases a with
 |np i o=>obtain ⟨_,g,j,p⟩:=h;exact ⟨⟨g,j,fun g' hg=>p g' (aH hg).2⟩,trivial⟩
 |sli i e n c=>obtain ⟨_,C,g,j,p⟩:=h;exact ⟨⟨C,g,j,fun g' hg=>p g' (aH hg).2⟩,trivial⟩
 |lst t e l=>cases t with
  |own s n=>
   unfold AV.toldK;simp only;split
   ·rename_i r
    rw [gA9] at r;refine ⟨trivial,h.imp (fun e=>e) fun ⟨g,cap,j,p⟩=>⟨g,cap,j,?_⟩⟩;rw [MI (aF.1 r.1),←Nat.eq_of_beq_eq_true r.2];exact p
   ·exact ⟨trivial,trivial⟩
  |_=>exact ⟨trivial,trivial⟩
 |_=>exact ⟨trivial,trivial⟩
theorem iW {ids ks:List Nat} {v:Value} {c x:AV} (h:RelS G v c) (j:c.argK st.row ks=some x):RelK1 G.σ (inB G.B ids) (inR G st.row ks) v x:=by
 cases c with
 |np i o=>cases j;obtain ⟨_,_,g,p,C⟩:=h;exact ⟨g,p,fun g' hg=>C g' (aH hg).2⟩
 |sli i e n c=>cases j;obtain ⟨_,_,I,g,p,C⟩:=h;exact ⟨I,g,p,fun g' hg=>C g' (aH hg).2⟩
 |ptr i o=>cases j;obtain ⟨g,p,C,J⟩:=h;exact ⟨g,C.trans (dw (uu J) _ _).symm,fun g' hg=>by have:=(aH hg).2;rw [p] at this;cases this;rfl⟩
 |lst t e l=>
  have p:=h.1;have C:=(TagOk.toK (ids:=ids) (ks:=ks) (st:=st) h.2).2;cases t with
  |nil=>cases j;exact p
  |own k n=>
   cases j;unfold AV.toldK at C⊢;simp only at C⊢;split<;>(rename_i P;rw [P] at C)
   ·exact ⟨p,C⟩
   ·exact p
  |full=>cases j;exact p
  |any=>cases j;exact p
 |frs k e r=>cases j
 |agg cs=>have:=RelB1.ofP (B:=inB G.B ids) (h.arg j);cases j;exact this
 |_=>first|(have:=RelB1.ofP (B:=inB G.B ids) (h.arg j);cases j;exact this)|cases j
theorem yD (h:Conc E G fr st a w) (ids ks:List Nat): ∀{xs:List Operand} {ts:List TypeId} {ys:List Opd} {as C:List AV},bS P xs ts=some ys→evs fr ys=some as→Bm st.row ks as=some C→RelKs G.σ (inB G.B ids) (inR G st.row ks) (xs.map a.eval) C
 | [],ts,ys,as,C,g,i,p=>by cases g;cases i;cases p;exact ⟨rfl,fun j v x r=>by simp at r⟩
 |x::xs,ts,ys,as,C,g,i,p=>by
  unfold bS at g;split at g
  ·rename_i y T hy I
   cases g;unfold evs at i;split at i
   ·rename_i c U hc has
    cases i;unfold Bm at p;split at p
    ·rename_i b bs' hb J
     cases p;have h0:=iW (ids:=ids) (h.ev hy hc) hb;have ih:=yD h ids ks I has J;refine ⟨by simp [ih.1],fun j v z r R=> ?_⟩;cases j with
     |zero=>simp at r R;subst r R;exact h0
     |succ j=>exact ih.2 j v z (by simpa using r) (by simpa using R)
    ·cases p
   ·cases i
  ·cases g
theorem RelKs.append {σ:Sg} {B:Nat→Option Nat} {R:Nat→Option RowI} {vs us:List Value} {p cap:List AV} (h:RelKs σ B R vs p) (r:RelL σ us cap):RelKs σ B R (vs++us) (p++cap):=by
 refine ⟨by simp [h.1,r.1],fun j v z g i=> ?_⟩;by_cases C:j<vs.length
 ·rw [gC1 C] at g
  rw [gC1 (by rw [←h.1];exact C)] at i;exact h.2 j v z g i
 ·rw [gC2 (by omega)] at g
  rw [gC2 (by rw [←h.1];omega),←h.1] at i;have I:=r.2 _ v z g i;have J:RelB1 σ B v z:= .ofP (.of1 I);cases z with
  |lst t e l=>cases t with
   |own k n=>have:=I.unown;cases this
   |_=>exact J
  |_=>exact J
theorem uV {σ' :Sg} {B' :Nat→Option Nat} {R' :Nat→Option RowI} {G' :Gho} {row:Nat→Nat} {ids ks:List Nat} (J:G'.σ=σ') (hB: ∀id∈ids,G'.B id=B' id) (hR: ∀k∈ks,G'.ρ k (row k+1)=R' k) {v:Value} {r:AV} (I:r.told1K ks ids=true) (h:RelK2 σ' B' R' v r):RelS G' v (r.back2 row)∧RelT G' v (r.back2 row):=by
 have own: ∀{k n e:Nat} {l:List (List AV)} {v:Value},bO k ks=true→sU R' v (.lst (.own k n) e l)→TagOk G' v (.lst (.own k (row k+1)) e l):=fun hm h=>h.imp (fun e=>e) fun ⟨g,cap,R,T⟩=>⟨g,cap,R,(hR _ (aF.1 hm)).trans T⟩
 cases r with
 |agg cs=>
  obtain ⟨us,he,R,T⟩:=h
  have hh:RelB2 σ' B' (.agg us.toArray) (.agg (cs.map (AV.toldK row []))):=⟨us,rfl,by rw [List.map_map,show AV.unown∘AV.toldK row []=AV.unown from funext (ik _ _)];exact R,fun j u x U i=>by
   rw [gA8] at i;cases p:cs[j]? with
   |none=>rw [p] at i;cases i
   |some c=>
    rw [p] at i;cases i;have:=(T j u c U p).1;cases c with
    |lst t e l=>cases t<;>exact trivial
    |_=>exact this⟩
  have hk2:(AV.agg (cs.map (AV.toldK row []))).told1 ids=true:=List.all_eq_true.2 fun x i=>by
   obtain ⟨c,p,rfl⟩:=List.mem_map.1 i;have:=List.all_eq_true.1 I c p;cases c with
   |lst t e l=>cases t<;>rfl
   |frs=>cases this
   |_=>exact this
  obtain ⟨_,C,e2,_,ht⟩:=iV J hB hk2 hh;have e3:C=us:=by injection e2 with e2;exact (List.toArray_inj e2).symm
  subst e3
  have P:TagsOk G' C (cs.map (AV.backK row)):=fun j u x U i=>by
   rw [gA8] at i;cases p:cs[j]? with
   |none=>rw [p] at i;cases i
   |some c=>
    rw [p] at i;cases i;have h3:=ht j u _ U (by rw [gA8,p];rfl);cases c with
    |lst t e l=>cases t with
     |own k n=>exact own (List.all_eq_true.1 I _ (gA2 p)) (T j u _ U p).2
     |_=>trivial
    |frs k e r=>have:=List.all_eq_true.1 I _ (gA2 p);cases this
    |_=>exact h3
  have h5:RelL G'.σ C ((cs.map (AV.backK row)).map AV.unown):=by rw [List.map_map,show AV.unown∘AV.backK row=AV.unown from funext (si _),J];exact R
  exact ⟨⟨C,he,h5,P⟩,⟨C,he,h5,P⟩⟩
 |lst t e l=>cases t with
  |own k n=>
   have:RelS G' v (.lst (.own k (row k+1)) e l):=⟨by rw [J];exact h.1,own I h.2⟩
   exact ⟨this,this⟩
  |_=>exact iV J hB I h
 |_=>exact iV J hB I h
theorem DZ {σ' :Sg} {B' :Nat→Option Nat} {R' :Nat→Option RowI} {G' :Gho} {row:Nat→Nat} {ids ks:List Nat} (p:G'.σ=σ') (C: ∀id∈ids,G'.B id=B' id) (I: ∀k∈ks,G'.ρ k (row k+1)=R' k) {v:Value} {r:AV} (J:(match r with| .tup l=>l.all (AV.told1K ks ids)|r=>r.told1K ks ids)=true) (h:RelK σ' B' R' v r):RelS G' v (r.backR row):=by
 cases r with
 |tup l=>
  obtain ⟨vs,e,P,R⟩:=h;refine ⟨vs,e,by rw [P,List.length_map],fun j u x T g=> ?_⟩;rw [gA8] at g;cases i:l[j]? with
  |none=>rw [i] at g;cases g
  |some c=>rw [i] at g;cases g;exact (uV p C I (List.all_eq_true.1 J c (gA2 i)) (R j u c T i)).2
 |_=>exact (uV p C I J h).1
theorem KY (h:Conc E G fr st a w) {c:Call} {f:Operand} (ho:o.op= .call c) (R:c.callee= .value f) {fid:FuncId} {cap as bs:List AV} {ids ks ks' :List Nat} {S S' :List (Nat×List AV)} {r:AV} {us:List Value} {ts:List TypeId} {ys:List Opd} (hfe:a.eval f= .func (.func fid) #[] us.toArray) (hus:RelL G.σ us cap)
  (T:bS P c.args.toList ts=some ys) (hav:evs fr ys=some as) (hbs:Bm st.row ks as=some bs) (hS:Bn st ks ids=some S) (p:GL ids ks' S' r=true) (U:bf st.box (au ids S')=true) (hMK:MTK P fid ks S (bs++cap) ks' S' r) (hn: ∀d,o.dst=some d→d<E.n)
  (hk:Then E (match o.dst with|some d=>aG (gB (au ids S') fr) d (r.backR st.row)|none=>gB (au ids S') fr) ⟨jM (jL (au ids S') st.box) ids (kY st.row S'),pi st.row ks ks'⟩ K):o.wp P a w K Q:=by
 obtain ⟨hd1,hd2⟩:=yC hS;have hrel:=(yD h ids ks T hav hbs).append (cap:=cap) hus
 have J: ∀id∈ids,∃cs,st.box id=some (cs,false):=fun id hid=>by
  rw [←hd1] at hid;obtain ⟨x,hx,e⟩:=List.mem_map.1 hid;obtain ⟨cs,C,_⟩:=hd2 x hx;exact ⟨cs,by rw [e] at C;exact C⟩
 unfold Oper.wp;rw [cR ho R hMK.cb hfe,Oper.upon_enter]
 have hat:BoxesAtK G.σ w (inB G.B ids) (inR G st.row ks) S:=fun id cs hm=>by
  obtain ⟨cs0,C,k2⟩:=hd2 _ hm;simp only at C k2;subst k2;obtain ⟨g,q1,q2,t,vs,q3,q4,q5,q6⟩:=h.box id cs0 false C;have hid:id∈ids:=by rw [←hd1];exact List.mem_map.2 ⟨_,hm,rfl⟩
  refine ⟨g,t,vs,by rw [iC hid];exact q1,q3,?_,fun j v c hv R=> ?_,fun j=>q6 j⟩
  ·rw [List.map_map,show AV.unown∘AV.toldK st.row ks=AV.unown from funext (ik _ _)]
   exact q4
  ·rw [gA8] at R
   cases hc0:cs0[j]? with
   |none=>rw [hc0] at R;cases R
   |some c0=>rw [hc0] at R;cases R;exact (q5 j v c0 (by simpa using hv) hc0).toK
 have hrows:RowsW G.σ w (inB G.B ids) (inR G st.row ks) ks:=⟨fun k r hr=>by
  obtain ⟨C,k2⟩:=eA hr;obtain ⟨k3,k4⟩:=h.row k r k2;exact ⟨C,k3.2,E.ownGl k3.1,fun id hid=>k4 id (aH hid).2⟩,fun k k' r r' h1 h2 he=>h.rinj k k' r r' (eA h1).2 (eA h2).2 he⟩
 refine (hMK.run G.σ w (inB G.B ids) (inR G st.row ks) _ h.hold (E.gwb h.below) (fun id g hg=>by rw [hd1];exact (aH hg).1) (fun id id' g h1 h2=>h.binj id id' g (aH h1).2 (aH h2).2) (fun id g hg=> ?_) hrows hat hrel).mono fun e w' ⟨σ',v,B',R',he,hx,hh,hb,hdom,hinj,hrw,hat',hr,I,i,hkept⟩=> ?_
 ·obtain ⟨C,k2⟩:=aH hg
  obtain ⟨cs,q1⟩:=J id C;obtain ⟨g',q2,q3,_⟩:=h.box id cs false q1;rw [k2] at q2;cases q2;exact E.ownGl q3
 ·subst he
  obtain ⟨G',hG',hσ,hB,hR⟩:=h.handedK J p U hx hh hb hdom hinj hrw hat' I i hkept;cases hd:o.dst with
  |none=>exact hk G' a w' (by rw [hd];exact hG')
  |some d=>
   refine hk G' (a.put (some d) v) w' ?_;rw [hd];refine hG'.put (hn d hd) (DZ hσ hB hR ?_ hr);unfold GL at p;simp only [gA9] at p;exact p.2
theorem KZ (h:Conc E G fr st a w) {c:Call} {f:Operand} (ho:o.op= .call c) (C:c.callee= .value f) {fid:FuncId} {cap as bs:List AV} {ids:List Nat} {S S' :List (Nat×List AV)} {r:AV} {us:List Value} {ts:List TypeId} {ys:List Opd} (hfe:a.eval f= .func (.func fid) #[] us.toArray) (hus:RelL G.σ us cap)
  (I:bS P c.args.toList ts=some ys) (hav:evs fr ys=some as) (hbs:iR as=some bs) (hS:pj st.box ids=some S) (i:okS ids S' r=true) (J:bf st.box (au ids S')=true) (hMS:MS P fid S (bs++cap) S' r) (hn: ∀d,o.dst=some d→d<E.n)
  (hk:Then E (match o.dst with|some d=>aG (gB (au ids S') fr) d r|none=>gB (au ids S') fr) ⟨jM (jL (au ids S') st.box) ids S',st.row⟩ K):o.wp P a w K Q:=by
 obtain ⟨R,hd2⟩:=iT hS;have hrel:=(mj h ids I hav hbs).append (cap:=cap) hus;unfold Oper.wp;rw [cR ho C hMS.cb hfe,Oper.upon_enter];have hgw:=E.gwb h.below
 have hat:BoxesAt G.σ w (inB G.B ids) S:=fun id cs hm=>by
  obtain ⟨cs0,k1,k2⟩:=hd2 _ hm;simp only at k1 k2;subst k2;obtain ⟨g,q1,q2,t,vs,q3,q4,q5,q6⟩:=h.box id cs0 false k1;have hid:id∈ids:=by rw [←R];exact List.mem_map.2 ⟨_,hm,rfl⟩
  refine ⟨g,t,vs,by rw [iC hid];exact q1,q3,?_,fun j v c hv C=> ?_,fun j=>q6 j⟩
  ·rw [List.map_map,show AV.unown∘AV.told=AV.unown from funext ec]
   exact q4
  ·rw [gA8] at C
   cases T:cs0[j]? with
   |none=>rw [T] at C;cases C
   |some c0=>rw [T] at C;cases C;exact (q5 j v c0 (by simpa using hv) T).toB
 refine (hMS.run G.σ w (inB G.B ids) _ h.hold hgw (fun id g hg=>by rw [R];exact (aH hg).1) (fun id id' g h1 h2=>h.binj id id' g (aH h1).2 (aH h2).2) (fun id g hg=> ?_) hat hrel).mono fun e w' ⟨σ',v,B',he,hx,hh,hb,hdom,hinj,hat',hr,p,U⟩=> ?_
 ·obtain ⟨k1,k2⟩:=aH hg
  rw [←R] at k1;obtain ⟨x,hxS,e⟩:=List.mem_map.1 k1;obtain ⟨cs,q1,_⟩:=hd2 x hxS;rw [e] at q1;obtain ⟨g',q2,q3,_⟩:=h.box id cs false q1;rw [k2] at q2;cases q2;exact E.ownGl q3
 ·subst he
  obtain ⟨G',hG',hσ,hB⟩:=h.handed hS i J hx hh hb hdom hinj hat' p U;cases hd:o.dst with
  |none=>exact hk G' a w' (by rw [hd];exact hG')
  |some d=>
   refine hk G' (a.put (some d) v) w' ?_;rw [hd];refine hG'.put (hn d hd) (qv hσ hB ?_ hr);unfold okS at i;simp only [gA9] at i;exact i.2
theorem mn (h:Conc E G fr st a w) {mo:MO} {d0:Option Nat} {xs:List Operand} {ts:List TypeId} {ys:List Opd} (hex: ∀nx w',(FJ mo (xs.map a.eval)).run P w= .ok nx w' →(execOp a.eval o).run P w= .ok nx w') (hd0:d0=o.dst) (hdv:mo.val=false→o.dst=none) (J:bS P xs ts=some ys) (hs:aj P (.mop mo d0 ys) rs fr st=some (fr',st',p)) (hp:p) (hn: ∀d,o.dst=some d→d<E.n) (hk:Then E fr' st' K):o.wp P a w K Q:=by
 subst hd0;simp only [aj] at hs;split at hs
 ·rename_i as ids S' r hav
  split at hs
  ·rename_i bs S hbs hS
   cases hs;obtain ⟨hM,I⟩:=hp;rw [gA9] at I;obtain ⟨i,R⟩:=I;obtain ⟨T,hd2⟩:=iT hS;have hrel:=mj h ids J hav hbs
   have hat:BoxesAt G.σ w (inB G.B ids) S:=fun id cs hm=>by
    obtain ⟨cs0,k1,k2⟩:=hd2 _ hm;simp only at k1 k2;subst k2;obtain ⟨g,q1,q2,t,vs,q3,q4,q5,q6⟩:=h.box id cs0 false k1;have hid:id∈ids:=by rw [←T];exact List.mem_map.2 ⟨_,hm,rfl⟩
    refine ⟨g,t,vs,by rw [iC hid];exact q1,q3,?_,fun j v c hv hc=> ?_,fun j=>q6 j⟩
    ·rw [List.map_map,show AV.unown∘AV.told=AV.unown from funext ec]
     exact q4
    ·rw [gA8] at hc
     cases U:cs0[j]? with
     |none=>rw [U] at hc;cases hc
     |some c0=>rw [U] at hc;cases hc;exact (q5 j v c0 (by simpa using hv) U).toB
   obtain ⟨nx,w',σ',v,B',hrun,hnx,hx,hh,hb,hdom,hinj,hat',hr,C,hkept⟩:=hM.run G.σ w (inB G.B ids) _ h.hold (E.gwb h.below) (fun id g hg=>by rw [T];exact (aH hg).1) (fun id id' g h1 h2=>h.binj id id' g (aH h1).2 (aH h2).2) (fun id g hg=>by
    obtain ⟨k1,k2⟩:=aH hg;rw [←T] at k1;obtain ⟨x,hxS,e⟩:=List.mem_map.1 k1;obtain ⟨cs,q1,_⟩:=hd2 x hxS;rw [e] at q1;obtain ⟨g',q2,q3,_⟩:=h.box id cs false q1;rw [k2] at q2;cases q2;exact E.ownGl q3) hat hrel
   obtain ⟨G',hG',hσ,hB⟩:=h.handed hS i R hx hh hb hdom hinj hat' C hkept;unfold Oper.wp;rw [hex _ _ hrun,hnx];cases hv:mo.val with
   |false=>
    rw [Oper.upon_skip];have hd:=hdv hv;rw [hd] at hk⊢;exact hk G' a w' hG'
   |true=>
    rw [Oper.upon_value];cases hd:o.dst with
    |none=>exact hk G' a w' (by rw [hd];exact hG')
    |some d=>
     refine hk G' (a.put (some d) v) w' ?_;rw [hd];refine hG'.put (hn d hd) (qv hσ hB ?_ hr);unfold okS at i;simp only [gA9] at i;exact i.2
  ·cases hs
 ·cases hs
theorem IV (h:Conc E G fr st a w) {c:Call} {f:Operand} (ho:o.op= .call c) (hc:c.callee= .value f) (hi:aW P mu gs o=some i) (j:aj P i rs fr st=some (fr',st',p)) (hp:p) (hn: ∀d,o.dst=some d→d<E.n) (hco: ∀d f args,i≠ .callo d f args) (hk:Then E fr' st' K):o.wp P a w K Q:=by
 unfold aW at hi;rw [ho] at hi;simp only [hc] at hi;split at hi
 ·rename_i f' args hf C
  split at hi
  ·
   cases hi;simp only [aj] at j;split at j
   ·rename_i fid cap id esz n cap0 as rows rows' I J
    split at j
    ·rename_i bs cs d R hbx hd
     split at j
     ·rename_i hfd
      cases j;obtain ⟨hcs,hl,hn1,hro,hMR⟩:=hp;subst hn1;obtain ⟨us,T,U⟩:=cg (h.ev hf I).1;obtain ⟨x,xs,y,ys',t,ts',e1,e2,e3,e4,e5⟩:=qu C J;exact KW h ho hc T U e1 (h.ev e2 e3) (dX h e4 e5 R) (az hbx).1 (az hbx).2 hcs hl hro hMR hd hfd hn hk
     ·cases j
    ·cases j
   ·rename_i fid cap e0 l0 as esz rows I J
    split at j
    ·rename_i bs d R hd
     split at j
     ·rename_i hfd
      cases j;obtain ⟨us,T,U⟩:=cg (h.ev hf I).1;obtain ⟨x,xs,y,ys',t,ts',e1,e2,e3,e4,e5⟩:=qu C J;have hrel:=dX h e4 e5 R;obtain ⟨A,cp,_,_,_,hv,_,_,_,_,_,_,h8,_⟩:=cN (h.ev e2 e3);obtain ⟨k1,k2,k3⟩:=h8 rfl;rw [k1,k2,k3] at hv;unfold Oper.wp;rw [cR ho hc hp.cb T,Oper.upon_enter,e1,List.map_cons,hv,List.cons_append];refine (hp.run G.σ w _ h.hold (hrel.append U) (E.gwb h.below)).mono fun e w' ⟨σ',g,cp,he,hx,hh,hb,hge,hr⟩=> ?_
      subst he;have h2:=h.world hb hx hh;obtain ⟨G',hG'⟩:=h2.anew (hn d hd) hfd (.inl (gB7 h.lt hge)) hr (fun id hid=>by have:=h.Blt id g hid;omega) (fun s r j e=>by have:=h.ρlt s r j;omega) (fun k x hk e=>by have:=((h.phi k x hk).1.2).lt;omega);rw [hd];exact hk _ _ _ hG'
     ·cases j
    ·cases j
   ·rename_i fid cap id esz n cap0 as rows r I J
    split at j
    ·rename_i bs cs R hbx hfl
     cases j;obtain ⟨hcs,hl,hn1,hro,hAC⟩:=hp;subst hn1;obtain ⟨us,T,U⟩:=cg (h.ev hf I).1;obtain ⟨x,xs,y,ys',t,ts',e1,e2,e3,e4,e5⟩:=qu C J;exact KX h ho hc T U e1 (h.ev e2 e3) (dX h e4 e5 R) (az hbx).1 (az hbx).2 hcs hl hro hfl hAC hn hk
    ·cases j
   ·rename_i fid cap as r I J
    split at j
    ·rename_i bs R
     cases j;obtain ⟨us,T,U⟩:=cg (h.ev hf I).1;exact ux h ho hc T U (dX h C J R) hp hn hk
    ·cases j
   ·rename_i fid cap as esz rows I J
    split at j
    ·rename_i bs d R hd
     split at j
     ·rename_i hfd
      cases j;obtain ⟨us,T,U⟩:=cg (h.ev hf I).1;exact FP h ho hc T U (dX h C J R) hp hd hfd hn hk
     ·cases j
    ·cases j
   ·cases j
  ·split at hi
   ·cases hi
    exact absurd rfl (hco _ _ _)
   split at hi
   ·
    cases hi;simp only [aj] at j;split at j
    ·rename_i fid cap as r I J
     split at j
     ·rename_i bs R
      cases j;obtain ⟨us,T,U⟩:=cg (h.ev hf I).1;exact ux h ho hc T U (dX h C J R) hp hn hk
     ·cases j
    ·rename_i fid cap as esz rows bs' I J
     split at j
     ·rename_i bs d R hd
      split at j
      ·rename_i hfd
       cases j;obtain ⟨us,T,U⟩:=cg (h.ev hf I).1;exact KV h ho hc T U (dX h C J R) hp hd hfd hn hk
      ·cases j
     ·cases j
    ·rename_i fid cap as ids S' r I J
     split at j
     ·rename_i bs S R hS
      cases j;obtain ⟨hp,hok⟩:=hp;rw [gA9] at hok;obtain ⟨us,T,U⟩:=cg (h.ev hf I).1;exact KZ h ho hc T U C J R hS hok.1 hok.2 hp hn hk
     ·cases j
    ·rename_i fid cap as ids ks S' ks' r I J
     split at j
     ·rename_i bs S R hS
      cases j;obtain ⟨hp,hok⟩:=hp;rw [gA9] at hok;obtain ⟨us,T,U⟩:=cg (h.ev hf I).1;exact KY h ho hc T U C J R hS hok.1 hok.2 hp hn hk
     ·cases j
    ·cases j
   ·cases hi
    simp only [aj] at j;split at j
    ·rename_i fid cap as r I J
     split at j
     ·rename_i bs R
      cases j;obtain ⟨us,T,U⟩:=cg (h.ev hf I).1;exact ux h ho hc T U (dX h C J R) hp hn hk
     ·cases j
    ·rename_i fid cap as esz rows I J
     split at j
     ·rename_i bs d R hd
      split at j
      ·rename_i hfd
       cases j;obtain ⟨us,T,U⟩:=cg (h.ev hf I).1;exact FP h ho hc T U (dX h C J R) hp hd hfd hn hk
      ·cases j
     ·cases j
    ·cases j
 ·cases hi
end
end
end Go.Proofs.YtbgflifmanjpjaaGreatDoor
