/- Part 4. -/
import Derived.Test.YtbgflifmanjpjaaGreatDoorS3
import Derived.Laws.Strings
import Derived.Laws.Strings2
import Derived.Laws.Strings3
import Derived.Laws.Small
import Derived.Laws.IdiomStrings
set_option linter.unusedSimpArgs false
set_option linter.unusedVariables false
namespace Go.Proofs.YtbgflifmanjpjaaGreatDoor
section
open Go.RowKit
abbrev Then (E:Env) (fr:Fr) (st:St) (K:Act→World→Prop):Prop:= ∀G a w,Conc E G fr st a w→K a w
section
variable {P:Program} {mu:List Nat} {E:Env} {G:Gho} {fr fr' :Fr} {st st' :St} {a:Act} {w:World} {o:Oper} {K:Act→World→Prop} {Q:Exit→Act→World→Prop} {p:Prop} {rs:Option RS} {i:AI} {gs:Bool}
theorem ao (h:Conc E G fr st a w) {v:Value} (g:(execOp a.eval o).run P w= .ok (.value v) w) {d:Nat} (hd:o.dst=some d) (i:d<E.n) {x:AV} (j:RelS G v x) (p:Then E (az fr d x) st K):o.wp P a w K Q:=by
 unfold Oper.wp;rw [g,Oper.upon_value,hd];exact p _ _ _ (h.put i j)
theorem D9 (h:Conc E G fr st a w) {x:Operand} (g:o.op= .move x∨o.op= .assign x) (hi:a6 P mu gs o=some i) (C:ah P i rs fr st=some (fr',st',p)) (R:p) (hn: ∀d,o.dst=some d→d<E.n) (I:Then E fr' st' K):o.wp P a w K Q:=by
 have r:(execOp a.eval o).run P w= .ok (.value (a.eval x)) w:=by rcases g with g|g<;>simp [execOp,g]
 have j:(match o.dst,bh P o.type x with
  |some d,some x=>some (AI.mov d x)
  |_,_=>none)=some i:=by rcases g with g|g<;>(unfold a6 at hi;rw [g] at hi;exact hi)
 split at j
 ·rename_i d y hd hy
  cases j;simp only [ah] at C;split at C
  ·rename_i c J
   cases C;exact ao h r hd (hn d hd) (h.ev hy J) I
  ·cases C
 ·cases j
theorem Gk (h:Conc E G fr st a w) {c x y:Operand} (ho:o.op= .pick c x y) (hi:a6 P mu gs o=some i) (j:ah P i rs fr st=some (fr',st',p)) (hp:p) (hn: ∀d,o.dst=some d→d<E.n) (R:Then E fr' st' K):o.wp P a w K Q:=by
 unfold a6 at hi;rw [ho] at hi;simp only at hi;split at hi
 ·rename_i d c' x' y' hd hc T hy
  cases hi;simp only [ah] at j;split at j
  ·rename_i cb U
   have hb:=(h.ev hc U).bool;have r:(execOp a.eval o).run P w= .ok (.value (if cb then a.eval x else a.eval y)) w:=by simp [execOp,ho,hb,asBool]
   split at j
   ·have I:a.eval x= .bool true:=(h.ev (c:= .bool true) T rfl).bool
    split at j
    ·rename_i g e C
     cases j;refine ao h r hd (hn d hd) (x:= .bool (cb||e)) ?_ R;cases cb with
     |true=>rw [if_pos rfl,I];exact ⟨.bool _,trivial⟩
     |false=>rw [if_neg (by simp)];exact (h.ev hy C).1 (hp rfl)
    ·rename_i e C
     cases j;refine ao h r hd (hn d hd) (x:= .bool (cb||e)) ?_ R;cases cb with
     |true=>rw [if_pos rfl,I];exact ⟨.bool _,trivial⟩
     |false=>rw [if_neg (by simp)];exact h.ev hy C
    ·cases j
   ·split at j
    ·have J:a.eval y= .bool false:=(h.ev (c:= .bool false) hy rfl).bool
     split at j
     ·rename_i g e C
      cases j;refine ao h r hd (hn d hd) (x:= .bool (cb&&e)) ?_ R;cases cb with
      |false=>rw [if_neg (by simp),J];exact ⟨.bool _,trivial⟩
      |true=>rw [if_pos rfl];exact (h.ev T C).1 (hp rfl)
     ·rename_i e C
      cases j;refine ao h r hd (hn d hd) (x:= .bool (cb&&e)) ?_ R;cases cb with
      |false=>rw [if_neg (by simp),J];exact ⟨.bool _,trivial⟩
      |true=>rw [if_pos rfl];exact h.ev T C
     ·cases j
    ·cases j
  ·cases j
 ·cases hi
theorem Ea (x y:Int):(x==y)=decide (x=y):=by rw [Bool.eq_iff_iff];simp
theorem CE {k k' :IntKind} (h:CB k k' =true):k=k' :=by
 unfold CB at h;have:=Nat.eq_of_beq_eq_true h;cases k<;>cases k' <;>first|rfl|(simp [IntKind.ctorIdx] at this)
theorem pG (x y:ByteArray):(x.toList==y.toList)=decide (x=y):=by
 rw [Bool.eq_iff_iff,beq_iff_eq,gB0,ByteArray.toList_eq,ByteArray.toList_eq];exact ⟨fun e=>ByteArray.ext (Array.ext' e),fun e=>by rw [e]⟩
theorem pH: ∀a b:List UInt8,(Op.bytesLess a b||a==b)= !Op.bytesLess b a
 | [],[]=>rfl
 | [],b::p=>by simp [Op.bytesLess]
 |a::as,[]=>by simp [Op.bytesLess]
 |a::as,b::p=>by
  have ih:=pH as p;simp only [Op.bytesLess];by_cases h:a=b
  ·subst h
   simp only [UInt8.lt_irrefl,decide_false,Bool.false_or,beq_self_eq_true,Bool.true_and,List.cons_beq_cons];exact ih
  ·have j:(a==b)=false:=by simpa using h
   have i:(b==a)=false:=by simpa using fun e=>h e.symm
   simp only [j,i,Bool.false_and,Bool.or_false,List.cons_beq_cons];by_cases g:a<b
   ·have: ¬b<a:=fun k=>UInt8.lt_irrefl _ (UInt8.lt_trans g k)
    simp [g,this]
   ·have:b<a:=by
     rcases UInt8.lt_or_lt_of_ne h with k|k
     ·exact absurd k g
     ·exact k
    simp [g,this]
theorem CF (op:BinOp) (k:IntKind) (x y:Int) {c:AV} {p:Prop} (h:Cz op k x y=some (c,p)) (g:p) (t:TypeId) (w:World): ∃v,(binOp op t (.int k x) (.int k y)).run P w= .ok v w∧ ∀G,RelS G v c:=by
 cases op<;>simp only [Cz,gB9,Prod.mk.injEq,reduceCtorEq] at h<;>(try obtain ⟨rfl,rfl⟩:=h)
 ·exact ⟨_,by simp [binOp,Op.intArith],fun G=>⟨.int _ _,trivial⟩⟩
 ·exact ⟨_,by simp [binOp,Op.intArith],fun G=>⟨.int _ _,trivial⟩⟩
 ·exact ⟨_,by simp [binOp,Op.intArith],fun G=>⟨.int _ _,trivial⟩⟩
 ·exact ⟨_,by simp [binOp,Op.intDiv,g],fun G=>⟨.int _ _,trivial⟩⟩
 ·exact ⟨_,by simp [binOp,Op.intDiv,g],fun G=>⟨.int _ _,trivial⟩⟩
 ·exact ⟨.int k (bits .and k x y),by simp [binOp,intBits_and],fun G=>⟨.int _ _,trivial⟩⟩
 ·exact ⟨.int k (bits .or k x y),by simp [binOp,intBits_or],fun G=>⟨.int _ _,trivial⟩⟩
 ·exact ⟨.int k (bits .xor k x y),by simp [binOp,intBits_xor],fun G=>⟨.int _ _,trivial⟩⟩
 ·exact ⟨.bool (decide (x=y)),by simp [binOp,Op.intCmp,Ea],fun G=>⟨.bool _,trivial⟩⟩
 ·exact ⟨.bool (!decide (x=y)),by simp [binOp,Op.intCmp,bne,Ea],fun G=>⟨.bool _,trivial⟩⟩
 ·exact ⟨.bool (decide (x<y)),by simp [binOp,Op.intCmp],fun G=>⟨.bool _,trivial⟩⟩
 ·exact ⟨.bool (decide (x≤y)),by simp [binOp,Op.intCmp],fun G=>⟨.bool _,trivial⟩⟩
 ·exact ⟨.bool (decide (x>y)),by simp [binOp,Op.intCmp],fun G=>⟨.bool _,trivial⟩⟩
 ·exact ⟨.bool (decide (x≥y)),by simp [binOp,Op.intCmp],fun G=>⟨.bool _,trivial⟩⟩
theorem CG (op:BinOp) (x y:ByteArray) {c:AV} {p:Prop} (h:CA op x y=some (c,p)) (g:p) (t:TypeId) (w:World): ∃v,(binOp op t (.string x) (.string y)).run P w= .ok v w∧ ∀G,RelS G v c:=by
 cases op<;>simp only [CA,gB9,Prod.mk.injEq,reduceCtorEq] at h<;>(try obtain ⟨rfl,rfl⟩:=h)
 ·refine ⟨.string (x++y),?_,fun G=>⟨.str _,trivial⟩⟩
  have: ¬((x.size+y.size:Nat):Int)>IntKind.i64.max:=by simp only [IntKind.max,IntKind.signed,IntKind.bits];simp;omega
  simp only [binOp,Op.stringOp,if_neg this,Sem.run_pure]
 ·exact ⟨.bool (decide (x=y)),by simp [binOp,Op.stringOp,pG],fun G=>⟨.bool _,trivial⟩⟩
 ·exact ⟨.bool (!decide (x=y)),by simp [binOp,Op.stringOp,pG],fun G=>⟨.bool _,trivial⟩⟩
 ·exact ⟨_,by simp only [binOp,Op.stringOp,Sem.run_pure],fun G=>⟨.bool _,trivial⟩⟩
 ·exact ⟨.bool (!Op.bytesLess y.toList x.toList),by simp only [binOp,Op.stringOp,Sem.run_pure,pH],fun G=>⟨.bool _,trivial⟩⟩
 ·exact ⟨.bool (Op.bytesLess y.toList x.toList),by simp only [binOp,Op.stringOp,Sem.run_pure,pH,Bool.not_not],fun G=>⟨.bool _,trivial⟩⟩
 ·exact ⟨_,by simp only [binOp,Op.stringOp,Sem.run_pure],fun G=>⟨.bool _,trivial⟩⟩
theorem Aj (op:BinOp) (x y:Bool) {c:AV} {p:Prop} (h:yD op x y=some (c,p)) (t:TypeId) (ht:yF P t=true) (w:World): ∃v,(binOp op t (.bool x) (.bool y)).run P w= .ok v w∧ ∀G,RelS G v c:=by
 have i:P.underlying t=some .bool:=by
  unfold yF at ht;split at ht
  ·assumption
  ·cases ht
 have g:(Op.equal t (.bool x) (.bool y)).run P w= .ok (x==y) w:=run_equal_bool w t x y i;cases op<;>simp only [yD,gB9,Prod.mk.injEq,reduceCtorEq] at h<;>(try obtain ⟨rfl,rfl⟩:=h)
 ·exact ⟨.bool (x==y),by simp [binOp,g],fun G=>⟨.bool _,trivial⟩⟩
 ·exact ⟨.bool (x !=y),by simp [binOp,g,bne],fun G=>⟨.bool _,trivial⟩⟩
theorem yH {op:BinOp} {t:TypeId} {x y:Operand} {u v:Value} (g:u.oneCell' =true) (hn:u≠ .nilIface) (w:World):(eqGuard op t x y u v).run P w= .ok () w:=by
 unfold eqGuard;cases op<;>simp<;>(cases u<;>cases v<;>simp_all [Value.oneCell'])
theorem yI {σ:Sg}: ∀{vs us:List Value} {cs:List AV},RelL σ vs (cs.map AV.unown)→tG cs=some us→vs=us
 | [],us,[],h,g=>by cases g;rfl
 | [],_,_::_,h,_=>by have:=h.1;simp at this
 |_::_,_,[],h,_=>by have:=h.1;simp at this
 |v::vs,us,c::cs,h,g=>by
  unfold tG at g;split at g
  ·rename_i u p j i
   cases g;have r:=h.head;rw [yI h.tail i];cases c<;>simp only [Kf,reduceCtorEq] at j<;>cases j<;>cases r<;>rfl
  ·cases g
theorem Ak {op:BinOp} {t:TypeId} {neg:Bool} (h:tK P op t=some neg):op=lw neg:=by
 unfold tK at h;split at h
 ·split at h
  ·cases h;rfl
  ·cases h
 ·split at h
  ·cases h;rfl
  ·cases h
 ·cases h
theorem yJ {t:TypeId} {x:Operand} {x' :Opd} {u:Value} (i:bh P t x=some x') (j:x'.ev fr=some (.raw u)) (p:x'.isK=true):isC x=true:=by
 cases x with
 |const v=>rfl
 |tmp n=>cases i;cases p
 |func f=>cases i;cases j
 | «global» g=>cases i
theorem KG {t:TypeId} {x y:Operand} {x' g:Opd} {u v:Value} (j:bh P t x=some x') (p:x'.ev fr=some (.raw u)) (hy:bh P t y=some g) (r:g.ev fr=some (.raw v)) (i:(x'.isK||g.isK)=true):(isC x||isC y)=true:=by
 rw [Bool.or_eq_true] at i⊢;exact i.imp (yJ j p) (yJ hy r)
theorem IM (h:Conc E G fr st a w) {op:BinOp} {t t' :TypeId} {x y:Operand} (T:o.op= .binOp op t x y t') (hi:a6 P mu gs o=some i) (g:ah P i rs fr st=some (fr',st',p)) (J:p) (hn: ∀d,o.dst=some d→d<E.n) (hk:Then E fr' st' K):o.wp P a w K Q:=by
 unfold a6 at hi;rw [T] at hi;simp only at hi;split at hi
 ·rename_i d x' y' hd U hy
  split at hi
  ·rename_i neg hneg
   cases hi;have hop:=Ak hneg;subst hop;simp only [ah] at g;split at g
   ·rename_i cs ds I C
    obtain ⟨us,R,r1,_⟩:=h.ev U I;obtain ⟨vs,e2,r2,_⟩:=h.ev hy C;split at g
    ·rename_i us' vs' hfu hfv
     cases g;have:=yI r1 hfu;subst this;have:=yI r2 hfv;subst this;obtain ⟨k1,k2⟩:=J w x y;exact ao h (by simp only [execOp,T,R,e2,Sem.run_bind,k1,Result.andThen_ok,k2];exact Sem.run_pure ..) hd (hn d hd) (by exact ⟨.bool _,trivial⟩) hk
    ·cases g
   ·rename_i u' v' I C
    have R:a.eval x=u' :=(h.ev U I).raw;have e2:a.eval y=v' :=(h.ev hy C).raw;split at g
    ·split at g
     ·rename_i j
      cases g;obtain ⟨k1,k2⟩:=J w x y (KG U I hy C j);exact ao h (by simp only [execOp,T,R,e2,Sem.run_bind,k1,Result.andThen_ok,k2];exact Sem.run_pure ..) hd (hn d hd) (by exact ⟨.bool _,trivial⟩) hk
     ·cases g
    ·cases g
   ·rename_i id0 of0 v' I C
    obtain ⟨_,_,g0,R,_⟩:=h.ev U I;have e2:a.eval y=v' :=(h.ev hy C).raw;split at g
    ·rename_i hnq j hmp
     cases g;rw [ef hmp] at R;have hcc:(isC x||isC y)=true:=by rw [yJ hy C j,Bool.or_true]
     obtain ⟨k1,k2⟩:=J g0 of0 w x y hcc;refine ao h (by simp only [execOp,T,R,e2,Sem.run_bind,k1,Result.andThen_ok,k2];exact Sem.run_pure ..) hd (hn d hd) (by cases neg<;>exact ⟨.bool _,trivial⟩) hk
    ·cases g
   ·cases g
  cases hi;simp only [ah] at g;split at g
  ·rename_i u v I C
   have h1:=h.ev U I;have h2:=h.ev hy C;split at g
   ·rename_i c q hb
    cases g
    have key: ∃r,(binOp op t (a.eval x) (a.eval y)).run P w= .ok r w∧(∀G,RelS G r c)∧(a.eval x).oneCell' =true∧a.eval x≠ .nilIface:=by
     unfold Gf at hb;split at hb
     ·split at hb
      ·cases hb
       rw [h1.int,h2.int];refine ⟨_,?_,fun G=>(show RelS G _ _ from ⟨.int _ _,trivial⟩),rfl,by simp⟩;have: ¬(_:Int)<0:=Int.not_lt.2 J;simp only [binOp,Op.shift,if_neg this,Sem.run_pure]
      ·cases hb
       rw [h1.int,h2.int];refine ⟨_,?_,fun G=>(show RelS G _ _ from ⟨.int _ _,trivial⟩),rfl,by simp⟩;have: ¬(_:Int)<0:=Int.not_lt.2 J;simp only [binOp,Op.shift,if_neg this,Sem.run_pure]
      split at hb
      ·rename_i j
       have:=CE j;subst this;rw [h1.int,h2.int];obtain ⟨r,hr,hg⟩:=CF op _ _ _ hb J t w (P:=P);exact ⟨r,hr,hg,rfl,by simp⟩
      ·cases hb
     ·rw [h1.str,h2.str]
      obtain ⟨r,hr,hg⟩:=CG op _ _ hb J t w (P:=P);exact ⟨r,hr,hg,rfl,by simp⟩
     ·split at hb
      ·rename_i hbt
       rw [h1.bool,h2.bool];obtain ⟨r,hr,hg⟩:=Aj op _ _ hb t hbt w (P:=P);exact ⟨r,hr,hg,rfl,by simp⟩
      ·cases hb
     ·cases hb
    obtain ⟨r,hr,hg,h3,h4⟩:=key;exact ao h (by simp [execOp,T,yH h3 h4,hr]) hd (hn d hd) (hg G) hk
   ·cases g
  ·cases g
 ·cases hi
theorem KH (h:Conc E G fr st a w) {op:UnOp} {t:TypeId} {x:Operand} (r:o.op= .unOp op t x) (hi:a6 P mu gs o=some i) (g:ah P i rs fr st=some (fr',st',p)) (hn: ∀d,o.dst=some d→d<E.n) (C:Then E fr' st' K):o.wp P a w K Q:=by
 unfold a6 at hi;rw [r] at hi;simp only at hi;split at hi
 ·rename_i d x' hd J
  cases hi;simp only [ah] at g;split at g
  ·rename_i u R
   have I:=h.ev J R;split at g
   ·rename_i c j
    cases g;cases u<;>simp only [Ln,reduceCtorEq] at j
    ·rename_i k n
     have:=I.int;cases op<;>simp only [reduceCtorEq] at j
     cases j;exact ao h (v:= .int k (k.wrap (0-n))) (x:= .int k (k.wrap (0-n))) (by simp [execOp,r,this,Op.unary,Op.intArith]) hd (hn d hd) ⟨.int _ _,trivial⟩ C
    ·rename_i b
     have:=I.bool;cases op<;>simp only [reduceCtorEq] at j
     cases j;exact ao h (v:= .bool (!b)) (x:= .bool (!b)) (by simp [execOp,r,this,Op.unary]) hd (hn d hd) ⟨.bool _,trivial⟩ C
   ·cases g
  ·cases g
 ·cases hi
def Cells (w:World) (b o:Nat) (vs:List Value):Prop:= ∀(j:Nat) v,vs[j]? =some v→w.cell? ⟨b,o+j,none⟩=some v
theorem Cells.add {b o:Nat} {vs:List Value} (h:Cells w b o vs): ∀(j:Nat) v,vs[j]? =some v→w.cell? ((⟨b,o,none⟩:Addr).add j)=some v:=fun j v g=>by rw [Addr.add_lit];exact h j v g
theorem xu {t:TypeId} (g:(P.underlying t).isSome=true):(isAgg t).run P w= .ok (lx P t) w:=by
 obtain ⟨d,hd⟩:=Option.isSome_iff_exists.1 g;unfold isAgg lx;rw [Sem.run_bind,run_underlying hd w];simp only [Result.andThen_ok,hd];cases d<;>rfl
theorem r7 {t:TypeId} {g:TypeInfo} (j:(P.underlying t).isSome=true) (hi:P.info? t=some g) (p:lx P t=true) {b o:Nat} {vs:List Value} (r:Cells w b o vs) (hl:vs.length=g.size):
  (loadVar t ⟨b,o,none⟩).run P w= .ok (.agg vs.toArray) w:=by
 have i:=run_loadCells_list (P:=P) w ⟨b,o,none⟩ vs r.add;rw [hl] at i;simp [loadVar,xu j,p,sizeOf,typeInfo,hi,i]
theorem r8 {t:TypeId} (g:(P.underlying t).isSome=true) (i:lx P t=false) {b o:Nat} {v:Value} (j:w.cell? ⟨b,o,none⟩=some v):(loadVar t ⟨b,o,none⟩).run P w= .ok v w:=by
 simp [loadVar,xu g,i,j]
theorem nr: ∀{n:Nat} {l r:List AV},eY n l=some r→r=l.take n∧r.length=n
 |0,l,r,h=>by cases h;simp
 |n+1,a::l,r,h=>by
  unfold eY at h;split at h
  ·rename_i r' hr
   cases h;obtain ⟨g,i⟩:=nr hr;exact ⟨by rw [g,List.take_succ_cons],by simp [i]⟩
  ·cases h
 |n+1,[],r,h=>by cases h
theorem cR: ∀{n:Nat} {l r:List AV},gb n l=some r→r=l.drop n∧n≤l.length
 |0,l,r,h=>by cases h;simp
 |n+1,a::l,r,h=>by
  unfold gb at h;obtain ⟨g,i⟩:=cR h;simp [g,i]
 |n+1,[],r,h=>by cases h
theorem pI: ∀{n:Nat} {l:List AV} {a:AV},no n l=some a→l[n]? =some a
 |0,b::l,a,h=>by cases h;rfl
 |n+1,b::l,a,h=>by
  unfold no at h;simpa using pI h
 |0,[],a,h=>by cases h
 |n+1,[],a,h=>by cases h
theorem l9 {g:Nat} {t:TypeId} {vs:Array Value} (hg:w.heap[g]? =some (.cells vs t (0,0))) (o:Nat):Cells w g o (vs.toList.drop o):=by
 intro j v i;rw [List.getElem?_drop] at i;simp [World.cell?,hg];simpa using i
theorem ly {t:TypeId} {g:TypeInfo} (U:(P.underlying t).isSome=true) (hi:P.info? t=some g) {b o:Nat} {vs:List Value} {cs:List AV} (hc:Cells w b o vs) (hr:RelL G.σ vs (cs.map AV.unown)) (ht:TagsOk G vs cs):
  (∀p,lx P t=true→eY g.size cs=some p→ ∃v,(loadVar t ⟨b,o,none⟩).run P w= .ok v w∧RelS G v (.agg p))∧
  ∀c,lx P t=false→no 0 cs=some c→ ∃v,(loadVar t ⟨b,o,none⟩).run P w= .ok v w∧RelS G v c:=by
 refine ⟨fun p C I=> ?_,fun c C I=> ?_⟩
 ·obtain ⟨J,h2⟩:=nr I
  have h3:=hr.take g.size;have hl:(vs.take g.size).length=g.size:=by rw [h3.1,←List.map_take,List.length_map,←J,h2]
  refine ⟨.agg (vs.take g.size).toArray,r7 U hi C (fun j v i=> ?_) hl,vs.take g.size,rfl,by rw [J,List.map_take];exact h3,fun j v x i r=> ?_⟩
  ·rw [List.getElem?_take] at i
   split at i
   ·exact hc j v i
   ·cases i
  ·rw [J] at r
   rw [List.getElem?_take] at i r;split at i
   ·rw [if_pos (by assumption)] at r;exact ht j v x i r
   ·cases i
 ·have h0:=pI I
  have R:(cs.map AV.unown)[0]? =some c.unown:=by rw [gA8,h0];rfl
  obtain ⟨v,i,T⟩:=hr.at_ R;exact ⟨v,r8 U C (by simpa using hc 0 v i),RelS.mk1 T (ht 0 v c i h0)⟩
theorem yK {v:Value} {cs:List AV} (h:RelS G v (.ro cs)): ∃b o vs,v= .pointer (some ⟨b,o,none⟩)∧RelL G.σ vs cs∧ ∀(j:Nat) u,vs[j]? =some u→G.σ b (o+j)=some u:=by
 have:=(h.1:Rel1 G.σ v (.ro cs))
 cases this with
 |ro cs b o f I hr=>
  refine ⟨b,o,(List.range cs.length).map f,rfl,⟨by simp,fun j u c g C=> ?_⟩,fun j u g=> ?_⟩
  ·have p:=(gA0 C).1
   rw [gA8,List.getElem?_range p] at g;cases g;exact hr j c C
  ·rw [gA8] at g
   cases r:(List.range cs.length)[j]? with
   |none=>rw [r] at g;cases g
   |some x=>
    rw [r] at g;cases g;obtain ⟨p,i⟩:=gA0 r;simp at p i;subst i;exact I _ p
theorem KI (h:Conc E G fr st a w) {t:TypeId} {x:Operand} (ho:o.op= .load t x) (hi:a6 P mu gs o=some i) (C:ah P i rs fr st=some (fr',st',p)) (hp:p) (hn: ∀d,o.dst=some d→d<E.n) (hk:Then E fr' st' K):o.wp P a w K Q:=by
 unfold a6 at hi;rw [ho] at hi;simp only at hi;split at hi
 ·rename_i d x' inf hd hx hinf
  split at hi
  ·rename_i hu
   cases hi;simp only [ah] at C;split at C
   ·rename_i id off T
    obtain ⟨g,hB,hv,_⟩:=h.ev hx T;split at C
    ·rename_i cs fz hb
     obtain ⟨hb,hmp⟩:=aA hb;obtain ⟨g',hB',h1,ty,vs,hg,I,htg,hfz⟩:=h.box id cs fz hb;replace hg:=hg.cells hmp;rw [hB] at hB';cases hB';split at C
     ·rename_i cs' hdr
      obtain ⟨J,hd2⟩:=cR hdr;have hL:=ly (P:=P) (G:=G) hu hinf (l9 hg off) (cs:=cs') (by rw [J,List.map_drop];exact I.drop off) (fun j u c R hc' =>by rw [J] at hc';exact htg (off+j) u c (by simpa using R) (by simpa using hc'));split at C
      ·rename_i U
       split at C
       ·rename_i cs2 htk
        cases C;obtain ⟨v,r,hrel⟩:=hL.1 _ U htk;exact ao h (by simp [execOp,ho,hv,Instr.loadAt,Instr.sureAddr,r]) hd (hn d hd) hrel hk
       ·cases C
      ·rename_i U
       split at C
       ·rename_i c hgt
        cases C;obtain ⟨v,r,hrel⟩:=hL.2 _ U hgt;exact ao h (by simp [execOp,ho,hv,Instr.loadAt,Instr.sureAddr,r]) hd (hn d hd) hrel hk
       ·cases C
     ·cases C
    ·cases C
   ·rename_i cs T
    obtain ⟨b,off,vs,hv,I,hσ⟩:=yK (h.ev hx T);have hcl:Cells w b off vs:=fun j u hu=>h.hold _ _ _ (hσ j u hu)
    have hL:=ly (P:=P) (G:=G) hu hinf hcl (cs:=cs) (by rw [I.map_unown];exact I) I.tags;split at C
    ·rename_i U
     split at C
     ·rename_i cs2 htk
      cases C;obtain ⟨v,r,hrel⟩:=hL.1 _ U htk;exact ao h (by simp [execOp,ho,hv,Instr.loadAt,Instr.sureAddr,r]) hd (hn d hd) hrel hk
     ·cases C
    ·rename_i U
     split at C
     ·rename_i c hgt
      cases C;obtain ⟨v,r,hrel⟩:=hL.2 _ U hgt;exact ao h (by simp [execOp,ho,hv,Instr.loadAt,Instr.sureAddr,r]) hd (hn d hd) hrel hk
     ·cases C
   ·rename_i id esz ie k c T
    obtain ⟨_,g0,hv0,hg0⟩:=h.ev hx T;split at C
    ·rename_i cs fz hb
     obtain ⟨hb,hmp⟩:=aA hb;obtain ⟨g,hB,h1,ty,vs,hg,I,htg,hfz⟩:=h.box id cs fz hb;replace hg:=hg.cells hmp;have hv:=hv0;rw [←hg0 g hB] at hv;split at C
     ·rename_i c' hdr
      obtain ⟨J,hd2⟩:=cR hdr
      have hL:c.length=esz∧(cs.drop (ie*esz)).take esz=c→_:=fun hc=>ly (P:=P) (G:=G) hu hinf (w:=w) (b:=g) (o:=ie*esz+k) (vs:=((vs.toList.drop (ie*esz)).take esz).drop k) (cs:=c')
       (fun j u hj=>l9 hg (ie*esz+k) j u (by
        rw [List.getElem?_drop,List.getElem?_take] at hj;split at hj
        ·rw [List.getElem?_drop] at hj
         rw [List.getElem?_drop,←hj,Nat.add_assoc]
        ·cases hj))
       (by rw [J,←hc.2,List.map_drop,List.map_take,List.map_drop];exact ((I.drop _).take _).drop _)
       (fun j u x R hx' =>by
        rw [J,←hc.2,List.getElem?_drop,List.getElem?_take] at hx';rw [List.getElem?_drop,List.getElem?_take] at R;split at hx'
        ·rename_i hlt
         rw [if_pos hlt] at R;rw [List.getElem?_drop] at hx' R;exact htg _ u x R hx'
        ·cases hx')
      split at C
      ·rename_i U
       split at C
       ·rename_i cs2 htk
        cases C;obtain ⟨v,r,hrel⟩:=(hL hp).1 _ U htk;exact ao h (by simp [execOp,ho,hv,Instr.loadAt,Instr.sureAddr,r]) hd (hn d hd) hrel hk
       ·cases C
      ·rename_i U
       split at C
       ·rename_i x2 hgt
        cases C;obtain ⟨v,r,hrel⟩:=(hL hp).2 _ U hgt;exact ao h (by simp [execOp,ho,hv,Instr.loadAt,Instr.sureAddr,r]) hd (hn d hd) hrel hk
       ·cases C
     ·cases C
    ·cases C
   ·rename_i id off T
    obtain ⟨_,_,g0,hv0,hg0⟩:=h.ev hx T;split at C
    ·rename_i cs fz hb
     obtain ⟨hb,hmp⟩:=aA hb;obtain ⟨g,hB,h1,ty,vs,hg,I,htg,hfz⟩:=h.box id cs fz hb;replace hg:=hg.cells hmp;have hv:=hv0;rw [←hg0 g hB,ef hmp] at hv;split at C
     ·rename_i cs' hdr
      obtain ⟨J,hd2⟩:=cR hdr;have hL:=ly (P:=P) (G:=G) hu hinf (l9 hg off) (cs:=cs') (by rw [J,List.map_drop];exact I.drop off) (fun j u c R hc' =>by rw [J] at hc';exact htg (off+j) u c (by simpa using R) (by simpa using hc'));split at C
      ·rename_i U
       split at C
       ·rename_i cs2 htk
        cases C;obtain ⟨v,r,hrel⟩:=hL.1 _ U htk;exact ao h (by simp [execOp,ho,hv,Instr.loadAt,Instr.sureAddr,r]) hd (hn d hd) hrel hk
       ·cases C
      ·rename_i U
       split at C
       ·rename_i c hgt
        cases C;obtain ⟨v,r,hrel⟩:=hL.2 _ U hgt;exact ao h (by simp [execOp,ho,hv,Instr.loadAt,Instr.sureAddr,r]) hd (hn d hd) hrel hk
       ·cases C
     ·cases C
    ·cases C
   ·cases C
  ·cases hi
 ·cases hi
end
end
section
open Go.RowKit
section
variable {P:Program} {mu:List Nat} {E:Env} {G:Gho} {fr fr' :Fr} {st st' :St} {a:Act} {w:World} {o:Oper} {K:Act→World→Prop} {Q:Exit→Act→World→Prop} {p:Prop} {rs:Option RS} {i:AI} {gs:Bool}
theorem cEz {v:Value} {t:Tag} {esz:Nat} {l:List (List AV)} (h:RelS G v (.lst t esz l)): ∃(A:Option Addr) (cap b o:Nat) (f:Nat→Nat→Value),v= .slice A l.length cap∧l.length≤cap∧(0<l.length→A=some ⟨b,o,none⟩)∧
  (∀(i:Nat) (c:List AV),l[i]? =some c→c.length=esz)∧(∀i j,i<l.length→j<esz→G.σ b (o+i*esz+j)=some (f i j))∧
  (∀(i j:Nat) (c:List AV) (x:AV),l[i]? =some c→c[j]? =some x→Rel1 G.σ (f i j) x)∧TagOk G v (.lst t esz l)∧(t= .nil→A=none∧l.length=0∧cap=0)∧(t= .full→cap=l.length):=by
 have key: ∀R,Rel1 G.σ v (.lst R esz l)→ ∃(A:Option Addr) (cap b o:Nat) (f:Nat→Nat→Value),v= .slice A l.length cap∧l.length≤cap∧(0<l.length→A=some ⟨b,o,none⟩)∧
   (∀(i:Nat) (c:List AV),l[i]? =some c→c.length=esz)∧(∀i j,i<l.length→j<esz→G.σ b (o+i*esz+j)=some (f i j))∧
   (∀(i j:Nat) (c:List AV) (x:AV),l[i]? =some c→c[j]? =some x→Rel1 G.σ (f i j) x)∧(R= .nil→A=none∧l.length=0∧cap=0)∧(R= .full→cap=l.length):=by
  intro R h';cases h' with
  |lst R esz l A n cap b o f hn hlen hA hsz hσ hr ht=>
   subst hn;exact ⟨A,cap,b,o,f,rfl,hlen,hA,hsz,hσ,hr,fun e=>by subst e;exact ht,fun e=>by subst e;exact ht⟩
 have T:Rel1 G.σ v ((AV.lst t esz l).unown):=h.1;have U:TagOk G v (.lst t esz l):=h.2;cases t with
 |own s ver=>
  obtain ⟨A,cap,b,o,f,q1,g,p,r,C,I,J,P⟩:=key .any T;exact ⟨A,cap,b,o,f,q1,g,p,r,C,I,U,(fun e=>by cases e),(fun e=>by cases e)⟩
 |nil=>obtain ⟨A,cap,b,o,f,q1,g,p,r,C,I,J,P⟩:=key _ T;exact ⟨A,cap,b,o,f,q1,g,p,r,C,I,U,J,P⟩
 |full=>obtain ⟨A,cap,b,o,f,q1,g,p,r,C,I,J,P⟩:=key _ T;exact ⟨A,cap,b,o,f,q1,g,p,r,C,I,U,J,P⟩
 |any=>obtain ⟨A,cap,b,o,f,q1,g,p,r,C,I,J,P⟩:=key _ T;exact ⟨A,cap,b,o,f,q1,g,p,r,C,I,U,J,P⟩
theorem th {v:Value} {t:Tag} {esz:Nat} {l:List (List AV)} (h:RelS G v (.lst t esz l)) (ht:t= .nil):l= []:=by
 obtain ⟨_,_,_,_,_,_,_,_,_,_,_,_,g,_⟩:=cEz h;exact List.eq_nil_of_length_eq_zero (g ht).2.1
theorem IN (h:Conc E G fr st a w) {t:TypeId} {x:Operand} {j:Nat} (R:o.op= .fieldAddr t x j) (hi:a6 P mu gs o=some i) (I:ah P i rs fr st=some (fr',st',p)) (hn: ∀d,o.dst=some d→d<E.n) (hk:Then E fr' st' K):o.wp P a w K Q:=by
 unfold a6 at hi;rw [R] at hi;simp only at hi;split at hi
 ·rename_i d x' fs hd hx hu
  split at hi
  ·rename_i f hf
   split at hi
   ·cases hi
   ·rename_i hsz
    cases hi
    have T:(sizeOf f.type).run P w= .ok (P.cellsOf f.type) w:=by
     unfold Program.cellsOf at hsz⊢;cases hq:P.info? f.type with
     |none=>rw [hq] at hsz;simp at hsz
     |some i=>simp [sizeOf,typeInfo,hq]
    have C: ∀b q,(Instr.fieldAt t (.pointer (some ⟨b,q,none⟩)) j).run P w= .ok (.pointer (some ⟨b,q+f.offset,none⟩)) w:=by
     intro b q;simp only [Instr.fieldAt,Sem.run_bind,run_underlying hu,Result.andThen_ok,hf,Instr.sureAddr,Sem.run_pure,fieldPlace,T];rw [if_neg hsz];simp [Addr.add_lit]
    simp only [ah] at I;split at I
    ·rename_i id off r
     cases I;obtain ⟨g,hB,J,hsm⟩:=h.ev hx r;exact ao h (v:= .pointer (some ⟨g,off+f.offset,none⟩)) (by simp [execOp,R,J,C]) hd (hn d hd) (x:= .ptr id (off+f.offset)) ⟨g,hB,rfl,hsm⟩ hk
    ·rename_i cs r
     obtain ⟨b,off,vs,J,U,hσ⟩:=yK (h.ev hx r);split at I
     ·rename_i cs' hdr
      cases I;obtain ⟨hd1,hd2⟩:=cR hdr;refine ao h (v:= .pointer (some ⟨b,off+f.offset,none⟩)) (by simp [execOp,R,J,C]) hd (hn d hd) (RelS.of1 (.ro cs' b (off+f.offset) (fun k=>(vs.drop f.offset).getD k undef) (fun k hk' => ?_) fun k x hx' => ?_)) hk
      ·have:(vs.drop f.offset)[k]? =some ((vs.drop f.offset)[k]'(by rw [gA6,U.1,←gA6,←hd1];exact hk')):=gA1 _
       rw [List.getElem?_drop] at this;rw [Nat.add_assoc,hσ _ _ this,List.getD,List.getElem?_drop,this];rfl
      ·rw [hd1] at hx'
       obtain ⟨v,hv1,hv2⟩:=(U.drop f.offset).at_ hx';rw [List.getD,hv1];exact hv2
     ·cases I
    ·rename_i id esz ie k c r
     cases I;obtain ⟨hid,g,J,hg⟩:=h.ev hx r;exact ao h (v:= .pointer (some ⟨g,ie*esz+k+f.offset,none⟩)) (by simp [execOp,R,J,C]) hd (hn d hd) (x:= .pel id esz ie (k+f.offset) c) ⟨hid,g,by rw [Nat.add_assoc],hg⟩ hk
    ·rename_i id off r
     split at I
     ·cases I
     rename_i hmp;cases I;obtain ⟨_,hid,g,J,hg⟩:=h.ev hx r;rw [ef hmp] at J;exact ao h (v:= .pointer (some ⟨g,off+f.offset,none⟩)) (by simp [execOp,R,J,C]) hd (hn d hd) (x:= .np id (off+f.offset)) ⟨.top _ rfl,hid,g,(ef hmp _ _).symm,hg⟩ hk
    ·cases I
  ·cases hi
 ·cases hi
theorem Gl (h:Conc E G fr st a w) {x:Operand} (U:o.op= .nilCheck x) (hi:a6 P mu gs o=some i) (I:ah P i rs fr st=some (fr',st',p)) (hn: ∀d,o.dst=some d→d<E.n) (R:Then E fr' st' K):o.wp P a w K Q:=by
 unfold a6 at hi;rw [U] at hi;simp only at hi;split at hi
 ·rename_i d x' hd J
  cases hi;have r: ∀b q,a.eval x= .pointer (some ⟨b,q,none⟩)→(execOp a.eval o).run P w= .ok (.value (.pointer (some ⟨b,q,none⟩))) w:=fun b q C=>by simp [execOp,U,C]
  simp only [ah] at I;split at I
  ·rename_i id off j
   cases I;obtain ⟨g,hB,C,T⟩:=h.ev J j;exact ao h (r _ _ C) hd (hn d hd) (x:= .ptr id (off+0)) ⟨g,hB,rfl,T⟩ R
  ·rename_i cs j
   obtain ⟨b,off,vs,C,_,_⟩:=yK (h.ev J j);cases I;exact ao h (r _ _ C) hd (hn d hd) (x:= .ro cs) (C▸h.ev J j) R
  ·rename_i id esz ie k c j
   cases I;obtain ⟨hid,g,C,hg⟩:=h.ev J j;exact ao h (r _ _ C) hd (hn d hd) (x:= .pel id esz ie (k+0) c) ⟨hid,g,rfl,hg⟩ R
  ·rename_i id off j
   split at I
   ·cases I
   rename_i hmp;cases I;obtain ⟨_,hid,g,C,hg⟩:=h.ev J j;rw [ef hmp] at C;exact ao h (r _ _ C) hd (hn d hd) (x:= .np id (off+0)) ⟨.top _ rfl,hid,g,(ef hmp _ _).symm,hg⟩ R
  ·cases I
 ·cases hi
theorem IP (h:Conc E G fr st a w) {t:TypeId} {x y:Operand} (ho:o.op= .indexAddr t x y) (hi:a6 P mu gs o=some i) (hs:ah P i rs fr st=some (fr',st',p)) (hp:p) (hn: ∀d,o.dst=some d→d<E.n) (hk:Then E fr' st' K):o.wp P a w K Q:=by
 unfold a6 at hi;rw [ho] at hi;simp only at hi;split at hi
 ·rename_i d x' y' e hd hx hy hu
  split at hi
  ·rename_i r J
   split at hi
   ·rename_i hpos
    cases hi;simp only [ah] at hs;split at hs
    ·rename_i id esz' n0 cap k n cs R T
     cases hs;obtain ⟨he,hn0,U⟩:=hp;subst he;obtain ⟨_,hid,_,g,hv,hg⟩:=h.ev hx R;have hiv:=(h.ev hy T).int;have hb:0≤n∧n<(n0:Int):=⟨hn0,U⟩
     have hsz:(sizeOf e).run P w= .ok r.size w:=by simp [sizeOf,typeInfo,J]
     have hue:P.underlying t=some (.slice (P.elem t)):=by unfold Program.elem;rw [hu]
     have I:P.elem t=e:=by unfold Program.elem;rw [hu]
     have C:(Instr.indexAt t (.slice (some ⟨g,0,none⟩) n0 cap) (.int k n)).run P w= .ok (.pointer (some ⟨g,n.toNat*r.size+0,none⟩)) w:=by
      rw [run_indexAt_slice w t _ _ _ k n hue,if_pos hb,I,hsz];simp [Addr.add_lit]
     exact ao h (v:= .pointer (some ⟨g,n.toNat*r.size+0,none⟩)) (by simp only [execOp,ho,hv,hiv,Sem.run_bind,C,Result.andThen_ok,Sem.run_pure]) hd (hn d hd) (x:= .pel id r.size n.toNat 0 cs) ⟨hid,g,rfl,hg⟩ hk
    ·rename_i t' esz' l k n cs R T
     cases hs;obtain ⟨he,hn0,hl⟩:=hp;subst he;obtain ⟨A,cap,b,q,f,hv,q2,q3,q4,q5,q6,_⟩:=cEz (h.ev hx R);have hiv:=(h.ev hy T).int;obtain ⟨U,hle⟩:=gA0 hl;have hA:=q3 (by omega);subst hA;have hb:0≤n∧n<(l.length:Int):=⟨hn0,by omega⟩
     have hsz:(sizeOf e).run P w= .ok r.size w:=by simp [sizeOf,typeInfo,J]
     have hue:P.underlying t=some (.slice (P.elem t)):=by unfold Program.elem;rw [hu]
     have I:P.elem t=e:=by unfold Program.elem;rw [hu]
     have C:(Instr.indexAt t (.slice (some ⟨b,q,none⟩) l.length cap) (.int k n)).run P w= .ok (.pointer (some ⟨b,q+n.toNat*r.size,none⟩)) w:=by
      rw [run_indexAt_slice w t _ _ _ k n hue,if_pos hb,I,hsz];simp [Addr.add_lit]
     have hcl:=q4 _ _ hl;refine ao h (v:= .pointer (some ⟨b,q+n.toNat*r.size,none⟩)) (by simp [execOp,ho,hv,hiv,C]) hd (hn d hd) (RelS.of1 (.ro cs b _ (fun j=>f n.toNat j) (fun j hj=> ?_) fun j x hx' =>q6 _ _ _ _ hl hx')) hk;exact q5 _ _ U (by omega)
    ·cases hs
   ·cases hi
  ·cases hi
 ·rename_i d x' y' n e hd hx hy hu
  split at hi
  ·rename_i r J
   split at hi
   ·cases hi
    simp only [ah] at hs;split at hs
    ·rename_i id off k m R T
     cases hs;obtain ⟨h0,U⟩:=hp;obtain ⟨g,hB,hv,hsm⟩:=h.ev hx R;have hiv:=(h.ev hy T).int;have hsz:(sizeOf e).run P w= .ok r.size w:=by simp [sizeOf,typeInfo,J]
     have hal:P.arrayLen t=n:=by unfold Program.arrayLen;rw [hu]
     have I:P.elem t=e:=by unfold Program.elem;rw [hu]
     have hue:P.underlying t=some (.array (P.arrayLen t) (P.elem t)):=by rw [hal,I];exact hu
     have C:(Instr.indexAt t (.pointer (some ⟨g,off,none⟩)) (.int k m)).run P w= .ok (.pointer (some ⟨g,off+m.toNat*r.size,none⟩)) w:=by
      rw [run_indexAt_array w t _ k m hue,if_pos (by rw [hal];exact ⟨h0,U⟩),I,hsz];simp [Addr.add_lit]
     exact ao h (v:= .pointer (some ⟨g,off+m.toNat*r.size,none⟩)) (by simp [execOp,ho,hv,hiv,C]) hd (hn d hd) (x:= .ptr id (off+m.toNat*r.size)) ⟨g,hB,rfl,hsm⟩ hk
    ·rename_i id off k m R T
     split at hs
     ·cases hs
     rename_i hmp;cases hs;obtain ⟨h0,U⟩:=hp;obtain ⟨_,hid,g,hv,hg⟩:=h.ev hx R;rw [ef hmp] at hv;have hiv:=(h.ev hy T).int;have hsz:(sizeOf e).run P w= .ok r.size w:=by simp [sizeOf,typeInfo,J]
     have hal:P.arrayLen t=n:=by unfold Program.arrayLen;rw [hu]
     have I:P.elem t=e:=by unfold Program.elem;rw [hu]
     have hue:P.underlying t=some (.array (P.arrayLen t) (P.elem t)):=by rw [hal,I];exact hu
     have C:(Instr.indexAt t (.pointer (some ⟨g,off,none⟩)) (.int k m)).run P w= .ok (.pointer (some ⟨g,off+m.toNat*r.size,none⟩)) w:=by
      rw [run_indexAt_array w t _ k m hue,if_pos (by rw [hal];exact ⟨h0,U⟩),I,hsz];simp [Addr.add_lit]
     exact ao h (v:= .pointer (some ⟨g,off+m.toNat*r.size,none⟩)) (by simp [execOp,ho,hv,hiv,C]) hd (hn d hd) (x:= .np id (off+m.toNat*r.size)) ⟨.top _ rfl,hid,g,(ef hmp _ _).symm,hg⟩ hk
    ·cases hs
   ·cases hi
  ·cases hi
 ·cases hi
theorem Gm (h:Conc E G fr st a w) {t:TypeId} {x y:Operand} (R:o.op= .index t x y) (hi:a6 P mu gs o=some i) (r:ah P i rs fr st=some (fr',st',p)) (T:p) (hn: ∀d,o.dst=some d→d<E.n) (U:Then E fr' st' K):o.wp P a w K Q:=by
 unfold a6 at hi;rw [R] at hi;simp only at hi;split at hi
 ·rename_i d x' y' hd hx hy hu
  cases hi;simp only [ah] at r;split at r
  ·rename_i s k n C I
   cases r;obtain ⟨h0,h1⟩:=T;have hv:=(h.ev hx C).str;have J:=(h.ev hy I).int;have g:n.toNat<s.size:=by omega
   have j:(Instr.index t (.string s) (.int k n)).run P w= .ok (.int .u8 (s.data.getD n.toNat 0).toNat) w:=by
    have e:s[n.toNat]? =some (s.data.getD n.toNat 0):=by
     rw [getElem?_pos s n.toNat g];congr 1;show s.data[n.toNat]'g=_;rw [Array.getD,dif_pos (show n.toNat<s.data.size from g)];rfl
    simp [Instr.index,asIntOf,run_underlying hu,h0,e]
   exact ao h (v:= .int .u8 (s.data.getD n.toNat 0).toNat) (by simp only [execOp,R,hv,J,Sem.run_bind,j,Result.andThen_ok,Sem.run_pure]) hd (hn d hd) (x:= .int .u8 (s.data.getD n.toNat 0).toNat) ⟨.int _ _,trivial⟩ U
  ·cases r
 ·cases hi
theorem Gn (h:Conc E G fr st a w) {c:Call} (ho:o.op= .call c) (hc:c.callee= .builtin .len) (hi:a6 P mu gs o=some i) (C:ah P i rs fr st=some (fr',st',p)) (hn: ∀d,o.dst=some d→d<E.n) (hno: ∀mo d ys,i≠ .mop mo d ys) (hk:Then E fr' st' K):o.wp P a w K Q:=by
 unfold a6 at hi;rw [ho] at hi;simp only [hc] at hi;split at hi
 ·rename_i d x t hd I R
  have T:c.args= #[x]:=Array.toList_inj.1 I;have U:c.argTypes= #[t]:=Array.toList_inj.1 R
  have r: ∀v,(Builtin.len_ #[t] o.type #[a.eval x]).run P w= .ok v w→(execOp a.eval o).run P w= .ok (.value v) w:=by
   intro v J;simp [execOp,ho,resolve,hc,T,U,invoke,builtin,J]
  split at hi
  ·rename_i x' hx hu
   cases hi;simp only [ah] at C;split at C
   ·rename_i heq _;cases heq
   ·rename_i heq _;cases heq
   ·rename_i heq _;cases heq
   ·rename_i s heq j
    cases C;have J:=(h.ev hx j).str;exact ao h (r (.int .i64 s.size) (by simp [Builtin.len_,run_underlying hu,J,goInt])) hd (hn d hd) (x:= .int .i64 s.size) ⟨.int _ _,trivial⟩ hk
   ·cases C
  ·rename_i x' e hx hu
   cases hi;simp only [ah] at C;split at C
   ·rename_i t' esz l heq j
    cases C;obtain ⟨A,cap,b,q,f,J,_⟩:=cEz (h.ev hx j);exact ao h (r (.int .i64 l.length) (by simp [Builtin.len_,run_underlying hu,J,goInt])) hd (hn d hd) (x:= .int .i64 l.length) ⟨.int _ _,trivial⟩ hk
   ·rename_i id esz n cap heq j
    cases C;obtain ⟨_,hid,_,g,J,hg⟩:=h.ev hx j;exact ao h (r (.int .i64 n) (by simp [Builtin.len_,run_underlying hu,J,goInt])) hd (hn d hd) (x:= .int .i64 n) ⟨.int _ _,trivial⟩ hk
   ·rename_i key esz rows heq j
    cases C;obtain ⟨_,g,cap,hφ,J⟩:=h.ev hx j;exact ao h (r (.int .i64 rows.length) (by simp [Builtin.len_,run_underlying hu,J,goInt])) hd (hn d hd) (x:= .int .i64 rows.length) ⟨.int _ _,trivial⟩ hk
   ·rename_i heq _;cases heq
   ·cases C
  ·cases hi;exact absurd rfl (hno _ _ _)
  ·cases hi
 ·cases hi
theorem IQ (h:Conc E G fr st a w) {x:Operand} {j:Nat} (R:o.op= .extract x j) (hi:a6 P mu gs o=some i) (g:ah P i rs fr st=some (fr',st',p)) (hn: ∀d,o.dst=some d→d<E.n) (U:Then E fr' st' K):o.wp P a w K Q:=by
 unfold a6 at hi;rw [R] at hi;simp only at hi;split at hi
 ·rename_i d x' hd hx
  cases hi;simp only [ah] at g;split at g
  ·rename_i l C
   split at g
   ·rename_i c hc
    cases g;obtain ⟨vs,hv,hl,hr⟩:=h.ev hx C;have T:=pI hc;have r:j<vs.length:=by rw [hl];exact (gA0 T).1
    have h1:vs[j]? =some vs[j]:=gA1 r;have I:=hr j _ _ h1 T
    have h3:RelS G vs[j] c:=by
     cases c<;>first
      |exact RelS.of1 I
      |exact I
      |(obtain ⟨us,he,J⟩:=I;exact ⟨us,he,by rw [J.map_unown];exact J,J.tags⟩)
    exact ao h (v:=vs[j]) (by simp [execOp,R,hv,Instr.extract,r]) hd (hn d hd) h3 U
   ·cases g
  ·cases g
 ·cases hi
theorem KJ (h:Conc E G fr st a w) {c:Call} (R:o.op= .call c) (T:c.callee= .builtin .max) (hi:a6 P mu gs o=some i) (C:ah P i rs fr st=some (fr',st',p)) (hn: ∀d,o.dst=some d→d<E.n) (U:Then E fr' st' K):o.wp P a w K Q:=by
 unfold a6 at hi;rw [R] at hi;simp only [T] at hi;split at hi
 ·rename_i d x y hd g
  have r:c.args= #[x,y]:=Array.toList_inj.1 g;split at hi
  ·rename_i x' y' hx hy
   cases hi;simp only [ah] at C;split at C
   ·rename_i k n k2 m I J
    cases C;have hv:=(h.ev hx I).int;have hw:=(h.ev hy J).int
    have he:(if m>n then m else n)=(match decide (m>n) with|true=>m|false=>n):=by
     by_cases j:m>n
     ·rw [if_pos j,decide_eq_true j]
     ·rw [if_neg j,decide_eq_false j]
    refine ao h (v:= .int k (match decide (m>n) with|true=>m|false=>n)) ?_ hd (hn d hd) (x:= .int k (match decide (m>n) with|true=>m|false=>n)) ⟨.int _ _,trivial⟩ U;rw [←he];simp [execOp,R,resolve,T,r,invoke,builtin,hv,hw,Builtin.max_,Builtin.max2]
   ·cases C
  ·cases hi
 ·cases hi
theorem Gp (h:Conc E G fr st a w) {s t:TypeId} {x:Operand} (U:o.op= .convert s t x) (hi:a6 P mu gs o=some i) (g:ah P i rs fr st=some (fr',st',p)) (hp:p) (hn: ∀d,o.dst=some d→d<E.n) (hk:Then E fr' st' K):o.wp P a w K Q:=by
 unfold a6 at hi;rw [U] at hi;simp only at hi;split at hi
 ·rename_i d x' k0 k hd hx r C
  cases hi;simp only [ah] at g;split at g
  ·rename_i k1 n I
   cases g;have hv:=(h.ev hx I).int;exact ao h (v:= .int k (k.wrap n)) (by simp [execOp,U,hv,convert,run_underlying r,run_underlying C,Conv.intToInt]) hd (hn d hd) (x:= .int k (k.wrap n)) ⟨.int _ _,trivial⟩ hk
  ·cases g
 ·rename_i d x' e hd hx r C
  split at hi
  ·rename_i hue
   cases hi;simp only [ah] at g;split at g
   ·rename_i tg esz l I
    split at g
    ·rename_i T q hbs
     cases g;obtain ⟨he,J,hq⟩:=hp;subst he;obtain ⟨A,cap,b,o2,f,hv,q2,q3,q4,q5,q6,_⟩:=cEz (h.ev hx I);obtain ⟨hl,hat⟩:=iS hbs hq;have hA:=q3 J;subst hA
     have R:(convert s t (.slice (some ⟨b,o2,none⟩) l.length cap)).run P w= .ok (.string ⟨T.toArray⟩) w:=by
      rw [←hl];refine run_convert_bytes_back w s t e ⟨b,o2,none⟩ cap T r hue C fun j hj=> ?_
      have h1:=q6 j 0 _ _ (hat j hj) rfl;have h2:=h.hold _ _ _ (q5 j 0 (by omega) (by omega));rw [Nat.mul_one,Nat.add_zero] at h2;rw [Addr.add_lit,h2];generalize f j 0=u at h1;cases h1;rfl
     exact ao h (v:= .string ⟨T.toArray⟩) (by simp [execOp,U,hv,R]) hd (hn d hd) (x:= .str ⟨T.toArray⟩) ⟨.str _,trivial⟩ hk
    ·cases g
   ·cases g
  ·cases hi
 ·cases hi
end
end
section
open Go.RowKit
section
variable {P:Program} {mu:List Nat} {E:Env} {G:Gho} {fr fr' :Fr} {st st' :St} {a:Act} {w:World} {o:Oper} {K:Act→World→Prop} {Q:Exit→Act→World→Prop} {p:Prop} {rs:Option RS} {i:AI} {gs:Bool}
theorem Conc.fresh (h:Conc E G fr st a w) (j:Nat):G.σ w.heap.size j=none:=by
 cases g:G.σ w.heap.size j with
 |none=>rfl
 |some v=>
  have:=World.block_lt_of_cell? w _ (h.hold _ _ _ g);simp at this
theorem Conc.Blt (h:Conc E G fr st a w): ∀id g,G.B id=some g→g<w.heap.size:=fun id g hg=>by
 cases i:st.box id with
 |none=>rw [h.bnone id i] at hg;cases hg
 |some x=>
  obtain ⟨p,fz⟩:=x;obtain ⟨g',j,_,I,r,C,_⟩:=h.box id p fz i;rw [hg] at j;cases j;exact C.lt
theorem Conc.notMap (h:Conc E G fr st a w) {id g:Nat} {cs:List AV} {fz:Bool} {t:TypeId} {vs:Array Value} {z:Nat×Nat} (hb:st.box id=some (cs,fz)) (r:G.B id=some g) (hg:w.heap[g]? =some (.cells vs t z)):aW id=false:=by
 obtain ⟨g',i,_,_,_,⟨o,p,j⟩,_⟩:=h.box id cs fz hb;rw [r] at i;cases i;rw [hg] at p;cases p;unfold oo at j;split at j
 ·assumption
 ·obtain ⟨_,_,e,_⟩:=j
  cases e
theorem Conc.ρlt (h:Conc E G fr st a w): ∀s r,G.ρ s (st.row s)=some r→r.g<w.heap.size:=fun s r i=>by
 obtain ⟨⟨_,p,g,j,_⟩,_⟩:=h.row s r i;exact cQ j
theorem Conc.newbox (h:Conc E G fr st a w) {d:Nat} (hd:d<E.n) (hb:st.box d=none) {cs:List AV} {vs:Array Value} (t:TypeId) (hr:RelL G.σ vs.toList (cs.map AV.unown)) (ht:TagsOk G vs.toList cs):
  Conc E {G with B:=upd G.B d (some w.heap.size)} (az fr d (.ptr d 0)) {st with box:=upd st.box d (some (cs,false))} (a.put (some d) (.pointer (some ⟨w.heap.size,0,none⟩))) (w.alloc (.cells vs t)):=by
 have hBd:=h.bnone d hb
 have T:G.le {G with B:=upd G.B d (some w.heap.size)}:=⟨Sg.le.refl _,fun _ _ _ h=>h,fun _ _ h=>h,fun id g hid hg=>by
  have C:=h.small;simp only at hg;rw [aB,if_neg (by omega)] at hg;exact hg⟩
 have hBn: ∀id g,G.B id=some g→(upd G.B d (some w.heap.size)) id=some g:=fun id g hg=>by
  rw [aB,if_neg (fun e=>by rw [e,hBd] at hg;cases hg)];exact hg
 have i:Below w.heap.size w (w.alloc (.cells vs t)):=(Below.refl _ _).alloc (gA4 _) _
 have R: ∀id g,G.B id=some g→g<w.heap.size:=fun id g hg=>by
  cases hbx:st.box id with
  |none=>rw [h.bnone id hbx] at hg;cases hg
  |some x=>
   obtain ⟨U,fz⟩:=x;obtain ⟨g',hg',_,t',vs',hh,_⟩:=h.box id U fz hbx;rw [hg] at hg';cases hg';exact hh.lt
 exact
 { defers:=by rw [nq];exact h.defers
   size:=by rw [tM];exact h.size
   slots:=fun s y p=>by
    rw [tL a _ s (by rw [h.size];exact hd)];unfold az at p;rw [aB] at p;by_cases hsd:s=d
    ·rw [if_pos hsd] at p⊢
     cases p;exact ⟨w.heap.size,ci _ _ _,rfl,Nat.lt_of_lt_of_le hd h.small⟩
    ·rw [if_neg hsd] at p⊢
     exact (h.slots s y p).mono T fun id off g _ hg=>hBn id g hg
   hold:=fun b o v hv=>by
    have J:=h.hold b o v hv;rw [World.cell?_alloc_lt w _ _ (World.block_lt_of_cell? w _ J)];exact J
   ext:=h.ext
   below:=h.below.trans (BelowK.of i fun _=>False) (fun _ h=>False.elim h)
   box:=fun id U fz p=>by
    simp only at p;rw [aB] at p;by_cases hid:id=d
    ·rw [if_pos hid] at p
     cases p;subst hid;exact ⟨w.heap.size,ci _ _ _,.inl h.lt,t,vs,.mk (yB (Nat.lt_of_lt_of_le hd h.small)) (heap_alloc_new w _),hr,ht.mono T,fun j=>h.fresh j⟩
    ·rw [if_neg hid] at p
     obtain ⟨g,J,C,t',vs',P,h4,h5,h6⟩:=h.box id U fz p;exact ⟨g,hBn id g J,C,t',vs',P.of (i.block g P.lt),h4,h5.mono T,h6⟩
   bnone:=fun id p=>by
    simp only at p⊢;rw [aB] at p⊢;by_cases hid:id=d
    ·rw [if_pos hid] at p;cases p
    ·rw [if_neg hid] at p⊢;exact h.bnone id p
   binj:=fun id id' g J C=>by
    simp only at J C;rw [aB] at J C;by_cases hid:id=d
    ·rw [if_pos hid] at J
     by_cases I:id' =d
     ·rw [hid,I]
     ·rw [if_neg I] at C
      cases J;have:=R _ _ C;omega
    ·rw [if_neg hid] at J
     by_cases I:id' =d
     ·rw [if_pos I] at C
      cases C;have:=R _ _ J;omega
     ·rw [if_neg I] at C;exact h.binj id id' g J C
   row:=fun s r p=>by
    obtain ⟨⟨J,e,cur,P,h4⟩,h9⟩:=h.row s r p;refine ⟨⟨J,e,cur,by rw [i.block r.g (cQ P)];exact P,h4⟩,fun id=> ?_⟩;simp only;rw [aB];split
    ·intro e
     injection e with e
     have:=cQ P;omega
    ·exact h9 id
   rinj:=h.rinj
   rlt:=h.rlt
   phi:=fun k x hk=>by
    obtain ⟨⟨J,C⟩,P,h4⟩:=h.phi k x hk;refine ⟨⟨J,C.on (Sg.le.refl _) (i.block _ C.lt) C.free⟩,fun id=> ?_,h4⟩;simp only;rw [aB];split
    ·intro e
     injection e with e
     have:=C.lt;omega
    ·exact P id
   phinj:=h.phinj
   pnone:=fun k hk=>h.pnone k (by
    unfold az at hk;rw [aB] at hk;split at hk
    ·cases hk
    ·exact hk)
   small:=h.small
   keep:=fun id g C hg=>h.keep id g C (by
    have P:=h.small;simp only at hg;rw [aB,if_neg (by omega)] at hg;exact hg)}
theorem iE: ∀{vs:List Value} {ts:List TypeId} {cs:List AV},ip P ts vs=some cs→RelL G.σ vs (cs.map AV.unown)∧TagsOk G vs cs
 | [],ts,cs,h=>by cases h;exact ⟨.nil,fun j v a C=>by simp at C⟩
 |v::vs,ts,cs,h=>by
  unfold ip at h;split at h
  ·rename_i c I g J
   cases h;obtain ⟨R,T⟩:=iE J;have r:=xt g G
   have key:Rel1 G.σ v c.unown∧TagOk G v c:=by
    unfold jC at g
    split at g<;>first
     |(cases g;exact r)
     |(split at g<;>cases g<;>exact r)
     |cases g
   refine ⟨.cons key.1 R,fun j u x i p=> ?_⟩;cases j with
   |zero=>simp at i p;subst i p;exact key.2
   |succ j=>exact T j u x (by simpa using i) (by simpa using p)
  ·cases h
theorem IR (h:Conc E G fr st a w) {t:TypeId} {x:Operand} (C:o.op= .box t x) (hi:a6 P mu gs o=some i) (g:ah P i rs fr st=some (fr',st',p)) (hn: ∀d,o.dst=some d→d<E.n) (I:Then E fr' st' K):o.wp P a w K Q:=by
 unfold a6 at hi;rw [C] at hi;simp only at hi;split at hi
 ·rename_i d x' hd J
  cases hi;simp only [ah] at g;split at g
  ·rename_i c r hb
   split at g
   ·rename_i cs R
    cases g;obtain ⟨T,U⟩:=(h.ev J r).cells R
    have j:(execOp a.eval o).run P w= .ok (.value (.pointer (some ⟨w.heap.size,0,none⟩))) (w.alloc (.cells (a.eval x).cells t)):=by
     simp [execOp,C,Instr.box,newVar,newRow]
    unfold Oper.wp;rw [j,Oper.upon_value,hd];exact I _ _ _ (h.newbox (hn d hd) hb t T U)
   ·cases g
  ·cases g
 ·cases hi
theorem EP (h:Conc E G fr st a w) {t:TypeId} (I:o.op= .alloc t) (hi:a6 P mu gs o=some i) (C:ah P i rs fr st=some (fr',st',p)) (hn: ∀d,o.dst=some d→d<E.n) (J:Then E fr' st' K):o.wp P a w K Q:=by
 unfold a6 at hi;rw [I] at hi;simp only at hi;split at hi
 ·rename_i d z hd g
  cases hi;simp only [ah] at C;split at C
  ·rename_i hb
   cases C;unfold pE at g;split at g
   ·rename_i R j
    split at g
    ·rename_i v T
     obtain ⟨U,h2⟩:=iE (G:=G) g
     have r:(execOp a.eval o).run P w= .ok (.value (.pointer (some ⟨w.heap.size,0,none⟩))) (w.alloc (.cells v.cells t)):=by
      simp [execOp,I,Instr.alloc,zeroValue,typeInfo,j,T,newVar,newRow]
     unfold Oper.wp;rw [r,Oper.upon_value,hd];exact J _ _ _ (h.newbox (hn d hd) hb t U h2)
    ·cases g
   ·cases g
  ·cases C
 ·cases hi
theorem cS: ∀{n:Nat} {xs l r:List AV},splice n xs l=some r→r=l.take n++xs++l.drop (n+xs.length)∧(xs≠ []→n+xs.length≤l.length)∧r.length=l.length
 |n,[],l,r,h=>by
  cases n<;>(unfold splice at h;cases h;simp)
 |0,x::xs,a::l,r,h=>by
  unfold splice at h;split at h
  ·rename_i r' hr
   cases h;obtain ⟨g,i,j⟩:=cS hr;refine ⟨?_,fun _=> ?_,by simp [j]⟩
   ·rw [g];simp
   ·cases xs with
    |nil=>simp
    |cons y ys=>have:=i (by simp);simp at this⊢;omega
  ·cases h
 |n+1,x::xs,a::l,r,h=>by
  unfold splice at h;split at h
  ·rename_i r' hr
   cases h;obtain ⟨g,i,j⟩:=cS hr;refine ⟨?_,fun _=> ?_,by simp [j]⟩
   ·rw [g,show n+1+(x::xs).length=(n+(x::xs).length)+1 by omega];simp
   ·have:=i (by simp);simp at this⊢;omega
  ·cases h
 |0,_::_,[],r,h=>by cases h
 |n+1,_::_,[],r,h=>by cases h
theorem RelL.splice {σ:Sg} {G:Gho} {vs us:List Value} {cs xs r:List AV} {n:Nat} (h:RelL σ vs (cs.map AV.unown)) (ht:TagsOk G vs cs) (J:RelL σ us (xs.map AV.unown)) (C:TagsOk G us xs) (R:Proofs.YtbgflifmanjpjaaGreatDoor.splice n xs cs=some r) (T:n+us.length≤vs.length):
  RelL σ (vs.take n++us++vs.drop (n+us.length)) (r.map AV.unown)∧TagsOk G (vs.take n++us++vs.drop (n+us.length)) r:=by
 obtain ⟨P,h2,h3⟩:=cS R;have p:us.length=xs.length:=by simpa using J.1
 have U:vs.length=cs.length:=by simpa using h.1
 constructor
 ·rw [P]
  simp only [List.map_append,List.map_take,List.map_drop];rw [←p];exact ((h.take n).append J).append (h.drop _)
 ·intro j v c i g
  rw [P,←p] at g;by_cases hj:j<n
  ·rw [List.append_assoc,gC1 (by rw [gA7];omega),List.getElem?_take,if_pos hj] at i g
   exact ht j v c i g
  ·rw [List.append_assoc,gC2 (by rw [gA7];omega),gA7] at i g
   have e1:min n vs.length=n:=by omega
   have e2:min n cs.length=n:=by omega
   rw [e1] at i;rw [e2] at g;by_cases I:j-n<us.length
   ·rw [gC1 I] at i
    rw [gC1 (by omega)] at g;exact C _ v c i g
   ·rw [gC2 (by omega),List.getElem?_drop] at i
    rw [gC2 (by omega),List.getElem?_drop] at g;exact ht _ v c i (by rw [←g,p])
theorem Conc.write (h:Conc E G fr st a w) {id g:Nat} {U new:List AV} {ty:TypeId} {vs:Array Value} (hb:st.box id=some (U,false)) (C:G.B id=some g) (I:E.own g) (hg:w.heap[g]? =some (.cells vs ty (0,0))) (J: ∀j,G.σ g j=none)
  {P:List Value} (hr:RelL G.σ P (new.map AV.unown)) (ht:TagsOk G P new):Conc E G fr {st with box:=upd st.box id (some (new,false))} a (w.setRow g P.toArray):=by
 have p: ∀k,k≠g→(w.setRow g P.toArray).heap[k]? =w.heap[k]? :=fun k hk' =>setRow_other w g k _ hk'
 refine {
  defers:=h.defers
  size:=h.size
  slots:=h.slots
  hold:=fun b q v hv=> ?_
  ext:=h.ext
  below:=xr h.below I
  box:=fun id' cs' fz' i=> ?_
  bnone:=fun id' i=> ?_
  binj:=h.binj
  row:=fun s r i=> ?_
  rinj:=h.rinj
  rlt:=h.rlt
  phi:=fun k x hk=> ?_
  phinj:=h.phinj
  pnone:=h.pnone
  small:=h.small
  keep:=h.keep}
 ·have hbg:b≠g:=fun e=>by
   subst e;have:=J q;rw [hv] at this;cases this
  rw [cell_setRow_other w g _ ⟨b,q,none⟩ hbg];exact h.hold b q v hv
 ·simp only at i
  rw [aB] at i;split at i
  ·rename_i e
   cases i;subst e;exact ⟨g,C,I,ty,P.toArray,.mk (h.notMap hb C hg) (setRow_heap w g vs _ ty _ hg),by simpa using hr,by simpa using ht,fun j=>J j⟩
  ·rename_i e
   obtain ⟨g2,T,k2,t2,vs2,k3,k4⟩:=h.box id' cs' fz' i;have:g2≠g:=fun R=>e (h.binj id' id g (R▸T) C)
   exact ⟨g2,T,k2,t2,vs2,k3.of (p g2 this),k4⟩
 ·simp only at i
  rw [aB] at i;split at i
  ·cases i
  ·exact h.bnone id' i
 ·obtain ⟨⟨T,e,cur,k3,k4⟩,k9⟩:=h.row s r i
  have:r.g≠g:=fun R=>k9 id (R▸C)
  exact ⟨⟨T,e,cur,by rw [p r.g this];exact k3,k4⟩,k9⟩
 ·obtain ⟨⟨h1,h2⟩,h3,h4⟩:=h.phi k x hk
  have:x.g≠g:=fun R=>h3 id (R▸C)
  exact ⟨⟨h1,h2.on (Sg.le.refl _) (p _ this) h2.free⟩,h3,h4⟩
theorem Conc.rebox (h:Conc E G fr st a w) {id:Nat} {x:List AV×Bool} (hb:st.box id=some x):Conc E G fr {st with box:=upd st.box id (some x)} a w:=by
 have:upd st.box id (some x)=st.box:=by
  funext k;rw [aB];split
  ·rename_i e;rw [e,hb]
  ·rfl
 rw [this];exact h
theorem tN {α:Type} (l:List α) (a n:Nat):l.take a++(l.drop a).take n++l.drop (a+n)=l:=by
 have g:l.drop (a+n)=(l.drop a).drop n:=by rw [List.drop_drop]
 rw [List.append_assoc,g,List.take_append_drop,List.take_append_drop]
theorem KK (h:Conc E G fr st a w) {t:TypeId} {x y:Operand} (ho:o.op= .store t x y) (hi:a6 P mu gs o=some i) (T:ah P i rs fr st=some (fr',st',p)) (hp:p) (hk:Then E fr' st' K):o.wp P a w K Q:=by
 unfold a6 at hi;rw [ho] at hi;simp only at hi;split at hi
 ·rename_i x' y' inf hd hx hy hinf
  cases hi
  have go: ∀{g off:Nat} {ty:TypeId} {vs:Array Value} {xs:List AV} {u:AV},y'.ev fr=some u→u.vcells=some xs→xs.length=inf.size→a.eval x= .pointer (some ⟨g,off,none⟩)→w.heap[g]? =some (.cells vs ty (0,0))→(xs≠ []→off+xs.length≤vs.size)→
    (xs= []→K a w)→(xs≠ []→ ∀us:List Value,us.length=xs.length→RelL G.σ us (xs.map AV.unown)→TagsOk G us xs→K a (w.setRow g (vs.toList.take off++us++vs.toList.drop (off+us.length)).toArray))→o.wp P a w K Q:=by
   intro g off ty vs xs u hyv hc hlen I hg hle k0 k1;obtain ⟨hr1,ht1⟩:=(h.ev hy hyv).cells hc;have J:(a.eval y).cells.toList.length=xs.length:=by simpa using hr1.1
   have hlen' :(a.eval y).cells.size=inf.size:=by simp at J;omega
   by_cases r:xs= []
   ·subst r
    have hz:(a.eval y).cells.toList= []:=List.eq_nil_of_length_eq_zero (by simpa using J);have hz2:inf.size=0:=by rw [←hlen'];simpa using congrArg List.length hz
    have hrun:(execOp a.eval o).run P w= .ok .skip w:=by
     simp [execOp,ho,I,Instr.storeAt,Instr.sureAddr,storeVar,sizeOf,typeInfo,hinf,hlen',hz,hz2,storeCells]
    unfold Oper.wp;rw [hrun,Oper.upon_skip,hd];exact k0 rfl
   ·have hst:=run_storeCells_at P g off ty (a.eval y).cells.toList 0 vs w hg (by have:=hle r;simp at J⊢;omega) hr1.one
    have hrun:(execOp a.eval o).run P w= .ok .skip (w.setRow g (vs.toList.take off++(a.eval y).cells.toList++vs.toList.drop (off+(a.eval y).cells.toList.length)).toArray):=by
     simp only [Nat.add_zero] at hst;simp only [execOp,ho,I,Instr.storeAt,Instr.sureAddr,storeVar,sizeOf,typeInfo,Sem.run_bind,run_program,Result.andThen_ok,hinf,Sem.run_pure,hlen',ne_eq,not_true_eq_false,if_false,hst]
    unfold Oper.wp;rw [hrun,Oper.upon_skip,hd];exact k1 r _ J hr1 ht1
  simp only [ah] at T;split at T
  ·rename_i id esz C k c u hxv hyv
   split at T
   ·rename_i xs cs hc hb
    split at T
    ·rename_i c' hlen hsp
     cases T;obtain ⟨hcl,hce⟩:=hp;have hlen:=Nat.eq_of_beq_eq_true hlen;obtain ⟨_,g0,I,hg0⟩:=h.ev hx hxv;obtain ⟨hb,hmp⟩:=aA hb;obtain ⟨g,hB,hge,ty,vs,hg,R,htg,hfz⟩:=h.box id cs false hb;replace hg:=hg.cells hmp;rw [←hg0 g hB] at I;obtain ⟨q1,q2,q3⟩:=cS hsp;have hvl:vs.size=cs.length:=by have:=R.1;simpa using this
     have hfit:xs≠ []→C*esz+esz≤cs.length:=fun r=>by
      have h1:=q2 r;have h2:((cs.drop (C*esz)).take esz).length=esz:=by rw [hce];exact hcl
      rw [gA7,gA6] at h2;have:0<xs.length:=by cases xs with|nil=>exact absurd rfl r|cons _ _=>simp
      omega
     refine go hyv hc hlen I hg (fun r=> ?_) (fun he=> ?_) fun r us J hr ht=> ?_
     ·have h1:=q2 r;have h2:=hfit r;omega
     ·subst he
      have e1:c' =c:=by rw [q1];simp
      rw [e1] at hk;rw [show cs.take (C*esz)++c++cs.drop (C*esz+esz)=cs by rw [←hce];exact tN cs _ _] at hk;exact hk _ _ _ (h.rebox hb)
     ·have h1:=q2 r
      have h2:=hfit r;refine hk _ _ _ (h.write hb hB hge hg hfz ?_ ?_)
      ·have e2:cs.take (C*esz)++c' ++cs.drop (C*esz+esz)=cs.take (C*esz+k)++xs++cs.drop (C*esz+k+xs.length):=by
        rw [q1,←hce,List.take_take,List.drop_take,List.drop_drop,Nat.min_eq_left (by omega)];rw [show C*esz+(k+xs.length)=C*esz+k+xs.length by omega,List.take_add (i:=C*esz) (j:=k)];simp only [List.append_assoc];congr 3;have:=List.take_append_drop (esz-(k+xs.length)) (cs.drop (C*esz+k+xs.length));rw [List.drop_drop,show C*esz+k+xs.length+(esz-(k+xs.length))=C*esz+esz by omega] at this;exact this
       rw [e2,←J];simp only [List.map_append,List.map_take,List.map_drop];exact ((R.take _).append hr).append (R.drop _)
      ·have e2:cs.take (C*esz)++c' ++cs.drop (C*esz+esz)=cs.take (C*esz+k)++xs++cs.drop (C*esz+k+xs.length):=by
        rw [q1,←hce,List.take_take,List.drop_take,List.drop_drop,Nat.min_eq_left (by omega)];rw [show C*esz+(k+xs.length)=C*esz+k+xs.length by omega,List.take_add (i:=C*esz) (j:=k)];simp only [List.append_assoc];congr 3;have:=List.take_append_drop (esz-(k+xs.length)) (cs.drop (C*esz+k+xs.length));rw [List.drop_drop,show C*esz+k+xs.length+(esz-(k+xs.length))=C*esz+esz by omega] at this;exact this
       rw [e2,←J];intro j v x hv U;have hvl2:vs.toList.length=cs.length:=by simpa using hvl
       by_cases hj:j<C*esz+k
       ·rw [List.append_assoc,gC1 (by rw [gA7];omega),List.getElem?_take,if_pos hj] at hv U
        exact htg j v x hv U
       ·rw [List.append_assoc,gC2 (by rw [gA7];omega),gA7] at hv U
        rw [show min (C*esz+k) vs.toList.length=C*esz+k by omega] at hv;rw [show min (C*esz+k) cs.length=C*esz+k by omega] at U;by_cases hj2:j-(C*esz+k)<us.length
        ·rw [gC1 hj2] at hv
         rw [gC1 (by omega)] at U;exact ht _ v x hv U
        ·rw [gC2 (by omega),List.getElem?_drop] at hv
         rw [gC2 (by omega),List.getElem?_drop] at U;exact htg _ v x hv (by rw [←U,J])
    ·cases T
   ·cases T
  ·rename_i id off u hxv hyv
   split at T
   ·rename_i xs old hc hb
    split at T
    ·rename_i new hlen hsp
     cases T;obtain ⟨g,hB,I,_⟩:=h.ev hx hxv;obtain ⟨hb,hmp⟩:=aA hb;obtain ⟨g',hB',hge,ty,vs,hg,R,htg,hfz⟩:=h.box id old false hb;replace hg:=hg.cells hmp;rw [hB] at hB';cases hB';have hlen:=Nat.eq_of_beq_eq_true hlen;obtain ⟨q1,q2,q3⟩:=cS hsp;have hvl:vs.size=old.length:=by have:=R.1;simpa using this
     refine go hyv hc hlen I hg (fun r=>by have:=q2 r;omega) (fun he=> ?_) fun r us J hr ht=> ?_
     ·subst he
      have hnew:new=old:=by rw [q1];simp
      subst hnew;exact hk _ _ _ (h.rebox hb)
     ·have hsp2:=R.splice htg hr ht hsp (by have:=q2 r;simp;omega)
      exact hk _ _ _ (h.write hb hB hge hg hfz hsp2.1 hsp2.2)
    ·cases T
   ·cases T
  ·rename_i id off u hxv hyv
   split at T
   ·rename_i xs old hc hb
    split at T
    ·rename_i new hlen hsp
     cases T;obtain ⟨_,_,g0,I,hg0⟩:=h.ev hx hxv;obtain ⟨hb,hmp⟩:=aA hb;obtain ⟨g,hB,hge,ty,vs,hg,R,htg,hfz⟩:=h.box id old false hb;replace hg:=hg.cells hmp;rw [←hg0 g hB,ef hmp] at I;have hlen:=Nat.eq_of_beq_eq_true hlen;obtain ⟨q1,q2,q3⟩:=cS hsp;have hvl:vs.size=old.length:=by have:=R.1;simpa using this
     refine go hyv hc hlen I hg (fun r=>by have:=q2 r;omega) (fun he=> ?_) fun r us J hr ht=> ?_
     ·subst he
      have hnew:new=old:=by rw [q1];simp
      subst hnew;exact hk _ _ _ (h.rebox hb)
     ·have hsp2:=R.splice htg hr ht hsp (by have:=q2 r;simp;omega)
      exact hk _ _ _ (h.write hb hB hge hg hfz hsp2.1 hsp2.2)
    ·cases T
   ·cases T
  ·cases T
 ·cases hi
theorem bY {σ:Sg} {v:Value} {f:FuncId} {cap:List AV} (h:Rel1 σ v (.fn f cap)): ∃us:List Value,v= .func (.func f) #[] us.toArray∧RelL σ us cap:=by
 cases h with
 |fn f cap us hl g hg hr=>exact ⟨us,rfl,hl,fun j v x i p=>by rw [hg j v i];exact hr j x p⟩
theorem RelP.of1 {σ:Sg} {v:Value} {c:AV} (h:Rel1 σ v c):RelP σ v c:=by cases c<;>first|exact h|cases h
theorem RelS.ofR {v:Value} {r:AV} (h:RelR G.σ v r):RelS G v r:=by
 cases r<;>first
  |exact RelS.of1 h
  |exact RelS0.ofTup h
  |(obtain ⟨us,i,g⟩:=h;exact ⟨us,i,by rw [g.map_unown];exact g,g.tags⟩)
theorem dI (h:Conc E G fr st a w): ∀{xs:List Operand} {ts:List TypeId} {ys:List Opd} {as C:List AV},cd P xs ts=some ys→evs fr ys=some as→dM as=some C→RelPs G.σ (xs.map a.eval) C
 | [],ts,ys,as,C,g,i,p=>by cases g;cases i;cases p;exact ⟨rfl,fun j v x r=>by simp at r⟩
 |x::xs,ts,ys,as,C,g,i,p=>by
  unfold cd at g;split at g
  ·rename_i y T hy I
   cases g;unfold evs at i;split at i
   ·rename_i c U hc has
    cases i;unfold dM at p;split at p
    ·rename_i b bs' hb J
     cases p;have ih:=dI h I has J;have h0:=(h.ev hy hc).arg hb;refine ⟨by simp [ih.1],fun j v z r R=> ?_⟩;cases j with
     |zero=>simp at r R;subst r R;exact h0
     |succ j=>exact ih.2 j v z (by simpa using r) (by simpa using R)
    ·cases p
   ·cases i
  ·cases g
theorem Conc.anew0 (h:Conc E G fr st a w) {d:Nat} (hd:d<E.n) (J:fr d=none) {g cap esz:Nat} {rows:List (List AV)} (P:E.own g) (hr:FRowW G.σ w g cap esz rows) (hB: ∀id,G.B id≠some g) (hρ: ∀s r,G.ρ s (st.row s)=some r→r.g≠g) (U: ∀k x,G.φ k=some x→x.g≠g)
  {v:Value} {y:AV} (hy:RelS {G with φ:=upd G.φ d (some ⟨g,cap,esz,rows⟩)} v y):Conc E {G with φ:=upd G.φ d (some ⟨g,cap,esz,rows⟩)} (az fr d y) st (a.put (some d) v) w:=by
 have hn:=h.pnone d J
 have C:G.le {G with φ:=upd G.φ d (some ⟨g,cap,esz,rows⟩)}:=⟨Sg.le.refl _,fun _ _ _ h=>h,fun k x i=>by
  simp only;rw [aB,if_neg (fun e=>by rw [e,hn] at i;cases i)];exact i,fun _ _ _ h=>h⟩
 refine {
  defers:=by rw [nq];exact h.defers
  size:=by rw [tM];exact h.size
  slots:=fun s y p=> ?_
  hold:=h.hold
  ext:=h.ext
  below:=h.below
  box:=fun id cs fz p=> ?_
  bnone:=h.bnone
  binj:=h.binj
  row:=h.row
  rinj:=h.rinj
  rlt:=h.rlt
  phi:=fun k x i=> ?_
  phinj:=fun k k' x x' i j R=> ?_
  pnone:=fun k i=> ?_
  small:=h.small
  keep:=h.keep}
 ·rw [tL a _ s (by rw [h.size];exact hd)]
  unfold az at p;rw [aB] at p;by_cases I:s=d
  ·rw [if_pos I] at p⊢
   cases p;exact hy
  ·rw [if_neg I] at p⊢
   exact (h.slots s y p).mono C fun _ _ _ _ hg=>hg
 ·obtain ⟨g',h1,h2,t',T,h3,h4,h5,h6⟩:=h.box id cs fz p
  exact ⟨g',h1,h2,t',T,h3,h4,h5.mono C,h6⟩
 ·simp only at i
  rw [aB] at i;split at i
  ·cases i
   exact ⟨⟨P,hr⟩,hB,hρ⟩
  ·exact h.phi k x i
 ·simp only at i j
  rw [aB] at i j;split at i
  ·rename_i e
   split at j
   ·rename_i e';rw [e,e']
   ·cases i;exact absurd R.symm (U _ _ j)
  ·split at j
   ·cases j;exact absurd R (U _ _ i)
   ·exact h.phinj k k' x x' i j R
 ·unfold az at i
  rw [aB] at i;split at i
  ·cases i
  ·rename_i e
   simp only;rw [aB,if_neg e];exact h.pnone k i
theorem Conc.anew (h:Conc E G fr st a w) {d:Nat} (hd:d<E.n) (i:fr d=none) {g cap esz:Nat} {rows:List (List AV)} (j:E.own g) (hr:FRowW G.σ w g cap esz rows) (p: ∀id,G.B id≠some g) (C: ∀s r,G.ρ s (st.row s)=some r→r.g≠g) (I: ∀k x,G.φ k=some x→x.g≠g):
  ∃G',Conc E G' (az fr d (.frs d esz rows)) st (a.put (some d) (.slice (some ⟨g,0,none⟩) rows.length cap)) w:=
 ⟨_,h.anew0 hd i j hr p C I (y:= .frs d esz rows) ⟨.top _ rfl,g,cap,ci _ _ _,rfl⟩⟩
theorem Conc.give (h:Conc E G fr st a w) {id g:Nat} {x:List AV×Bool} (hid:1000000≤id) (hb:st.box id=some x) (hB:G.B id=some g) (hge:E.own g) (hfree: ∀j,G.σ g j=none) {w' :World} (p:BelowBut g w w') {σ' :Sg} (T:Ext G.σ σ' w.heap.size) (hh:Holds σ' w'):
  Conc E {G with σ:=σ',B:=upd G.B id none} fr {st with box:=upd st.box id none} a w' :=by
 have hle:G.le {G with σ:=σ',B:=upd G.B id none}:=⟨T.1,fun _ _ _ h=>h,fun _ _ h=>h,fun id' g' _ hg=>by
  simp only at hg;rw [aB] at hg;split at hg
  ·cases hg
  ·exact hg⟩
 have C: ∀id' g',upd G.B id none id' =some g' →id' ≠id∧G.B id' =some g' :=fun id' g' hg=>by
  rw [aB] at hg;split at hg
  ·cases hg
  ·rename_i e;exact ⟨e,hg⟩
 have hσ: ∀b,b<w.heap.size→ ∀j,σ' b j=G.σ b j:=fun b hb j=>T.2 b j hb
 refine {
  defers:=h.defers
  size:=h.size
  slots:=fun s y I=> ?_
  hold:=hh
  ext:=h.ext.trans (T.toK fun _=>False) h.lt (fun _ h=>False.elim h)
  below:=h.below.trans (K' :=fun b=>b=g) ⟨p.os,p.tape,p.output,p.size,fun k hk hn=>p.block k hk hn⟩ (by rintro x rfl;exact hge.symm)
  box:=fun id' cs fz I=> ?_
  bnone:=fun id' I=> ?_
  binj:=fun id1 id2 g' h1 R=>h.binj id1 id2 g' (C _ _ h1).2 (C _ _ R).2
  row:=fun s r I=> ?_
  rinj:=h.rinj
  rlt:=h.rlt
  phi:=fun k x hk=> ?_
  phinj:=h.phinj
  pnone:=h.pnone
  small:=h.small
  keep:=fun id g R hg=>h.keep id g R (C _ _ hg).2}
 ·exact (h.slots s y I).mono2 hle fun id' g' i hg=>by
   simp only;rw [aB,if_neg (by omega)];exact hg
 ·simp only at I
  rw [aB] at I;split at I
  ·cases I
  ·rename_i e
   obtain ⟨U,k1,k2,t2,vs2,k3,k4,k5,k6⟩:=h.box id' cs fz I;have i:=k3.lt;have J:U≠g:=fun e' =>e (h.binj id' id g (e' ▸k1) hB)
   refine ⟨U,by simp only;rw [aB,if_neg e];exact k1,k2,t2,vs2,k3.of (p.block U i J),k4.mono T.1,k5.mono hle,?_⟩;cases fz with
   |true=>exact fun j v hv=>T.1 _ _ _ (k6 j v hv)
   |false=>exact fun j=>by rw [show ({G with σ:=σ',B:=upd G.B id none}:Gho).σ U j=σ' U j from rfl,hσ U i];exact k6 j
 ·simp only at I⊢
  rw [aB] at I⊢;split at I
  ·rename_i e;rw [if_pos e]
  ·rename_i e;rw [if_neg e];exact h.bnone id' I
 ·obtain ⟨⟨h1,e,cur,h3,h4,h5,h8⟩,h9⟩:=h.row s r I
  have i:=cQ h3;have J:r.g≠g:=fun e' =>h9 id (e' ▸hB)
  exact ⟨⟨h1,e,cur,by rw [p.block r.g i J];exact h3,h4,h5,fun j hj=>by rw [show ({G with σ:=σ',B:=upd G.B id none}:Gho).σ r.g j=σ' r.g j from rfl,hσ r.g i];exact h8 j hj⟩,fun id' P=>h9 id' (C _ _ P).2⟩
 ·obtain ⟨⟨h1,R⟩,h3,h4⟩:=h.phi k x hk
  have i:=R.lt;have J:x.g≠g:=fun e' =>h3 id (e' ▸hB)
  exact ⟨⟨h1,R.on T.1 (p.block _ i J) fun j=>by rw [show ({G with σ:=σ',B:=upd G.B id none}:Gho).σ x.g j=σ' x.g j from rfl,hσ x.g i];exact R.free j⟩,fun id' P=>h3 id' (C _ _ P).2,h4⟩
theorem dd {c:Call} {f:Operand} (J:o.op= .call c) (R:c.callee= .value f) {i:FuncId} {us:List Value} (g:aa P i=true) (r:a.eval f= .func (.func i) #[] us.toArray):
  (execOp a.eval o).run P w= .ok (.enter i (c.args.toList.map a.eval++us).toArray) w:=by
 unfold aa at g;cases p:P.funcs[i]? with
 |none=>rw [p] at g;cases g
 |some fn=>
  rw [p] at g;simp only [gA9,bne_iff_ne,ne_eq] at g
  have C:(fn.name== "runtime.NumGoroutine")=false:=by simpa using g.2
  have I:fn.body.isNone=false:=by cases hb:fn.body<;>simp_all
  have j:(c.args.map a.eval)=(c.args.toList.map a.eval).toArray:=Array.ext' (by simp);simp only [execOp,J,resolve,R,r,Deferred.ofValue,Sem.run_bind,Sem.run_pure,Result.andThen_ok,invoke,callFunc,run_program,p,C,I,Bool.false_eq_true,if_false];rw [j];simp
theorem RelPs.append {σ:Sg} {vs us:List Value} {p cap:List AV} (h:RelPs σ vs p) (r:RelL σ us cap):RelPs σ (vs++us) (p++cap):=by
 refine ⟨by simp [h.1,r.1],fun j v z g i=> ?_⟩;by_cases C:j<vs.length
 ·rw [gC1 C] at g
  rw [gC1 (by rw [←h.1];exact C)] at i;exact h.2 j v z g i
 ·rw [gC2 (by omega)] at g
  rw [gC2 (by rw [←h.1];omega),←h.1] at i;exact RelP.of1 (r.2 _ v z g i)
theorem ti (h:Conc E G fr st a w) {c:Call} {f:Operand} (R:o.op= .call c) (T:c.callee= .value f) {g:FuncId} {cap C:List AV} {r:AV} {us:List Value} (j:a.eval f= .func (.func g) #[] us.toArray) (p:RelL G.σ us cap)
  (hrel:RelPs G.σ (c.args.toList.map a.eval) C) (i:AC P g (C++cap) r) (hn: ∀d,o.dst=some d→d<E.n) (I:Then E (match o.dst with|some d=>az fr d r|none=>fr) st K):o.wp P a w K Q:=by
 unfold Oper.wp;rw [dd R T i.cb j,Oper.upon_enter];refine (i.run G.σ w _ h.hold (hrel.append p) (E.gwb h.below)).mono fun e w' ⟨σ',v,U,hx,hh,hb,hr⟩=> ?_
 subst U;have J:=h.world hb hx hh;cases hd:o.dst with
 |none=>exact I {G with σ:=σ' } a w' (by rw [hd];exact J)
 |some d=>
  refine I {G with σ:=σ' } (a.put (some d) v) w' ?_;rw [hd];exact J.put (hn d hd) (RelS.ofR hr)
theorem Eb (h:Conc E G fr st a w) {c:Call} {f:Operand} (ho:o.op= .call c) (hc:c.callee= .value f) {i:FuncId} {cap U:List AV} {esz:Nat} {rows:List (List AV)} {us:List Value} (p:a.eval f= .func (.func i) #[] us.toArray) (C:RelL G.σ us cap)
  (hrel:RelPs G.σ (c.args.toList.map a.eval) U) (j:MF P i (U++cap) esz rows) {d:Nat} (hd:o.dst=some d) (I:fr d=none) (hn: ∀d,o.dst=some d→d<E.n) (J:Then E (az fr d (.frs d esz rows)) st K):o.wp P a w K Q:=by
 unfold Oper.wp;rw [dd ho hc j.cb p,Oper.upon_enter];refine (j.run G.σ w _ h.hold (hrel.append C) (E.gwb h.below)).mono fun e w' ⟨σ',g,cp,he,hx,hh,hb,R,hr⟩=> ?_
 subst he;have h2:=h.world hb hx hh;obtain ⟨G',T⟩:=h2.anew (hn d hd) I (.inl (gB7 h.lt R)) hr (fun id hid=>by have:=h.Blt id g hid;omega) (fun s r hs e=>by have:=h.ρlt s r hs;omega) (fun k x J e=>by have:=((h.phi k x J).1.2).lt;omega);rw [hd];exact J _ _ _ T
theorem IS (h:Conc E G fr st a w) {c:Call} {f:Operand} (ho:o.op= .call c) (hc:c.callee= .value f) {p:FuncId} {cap bs as:List AV} {esz:Nat} {rows:List (List AV)} {us:List Value} (J:a.eval f= .func (.func p) #[] us.toArray) (i:RelL G.σ us cap)
  (hrel:RelPs G.σ (c.args.toList.map a.eval) bs) (C:MT P p (bs++cap) esz rows as) {d:Nat} (hd:o.dst=some d) (R:fr d=none) (hn: ∀d,o.dst=some d→d<E.n) (T:Then E (az fr d (.tup (.frs d esz rows::as))) st K):o.wp P a w K Q:=by
 unfold Oper.wp;rw [dd ho hc C.cb J,Oper.upon_enter];refine (C.run G.σ w _ h.hold (hrel.append i) (E.gwb h.below)).mono fun e w' ⟨σ',g,cp,us,he,i,I,hh,hb,U,hr⟩=> ?_
 subst he;have h2:=h.world hb I hh;rw [hd];refine T _ _ _ (h2.anew0 (hn d hd) R (.inl (gB7 h.lt U)) hr (fun id hid=>by have:=h.Blt id g hid;omega) (fun s r hs e=>by have:=h.ρlt s r hs;omega) (fun k x T e=>by have:=((h.phi k x T).1.2).lt;omega) ?_);refine ⟨_,rfl,by simp [i.1],fun j u x hu I=> ?_⟩;cases j with
 |zero=>cases hu;cases I;exact ⟨.top _ rfl,g,cp,ci _ _ _,rfl⟩
 |succ j=>exact .of (i.2 j u x (by simpa using hu) (by simpa using I))
theorem RowsOk.flat {esz:Nat} {rows:List (List AV)} (h:RowsOk esz rows):rows.flatten.length=rows.length*esz∧rows.flatten.map AV.unown=rows.flatten:=by
 obtain ⟨_,h⟩:=h
 induction rows with
 |nil=>simp
 |cons x l ih=>
  obtain ⟨g,i⟩:=ih fun c j=>h c (by simp [j])
  obtain ⟨p,r⟩:=h x (by simp);constructor
  ·rw [List.flatten_cons,gA5,gA3,g,p,gC3];omega
  ·rw [List.flatten_cons,List.map_append,i,r]
theorem RowsOk.at_ {esz:Nat} {rows:List (List AV)} (h:RowsOk esz rows) {i:Nat} {c:List AV} (g:rows[i]? =some c) {j:Nat} {x:AV} (p:c[j]? =some x):rows.flatten[i*esz+j]? =some x:=by
 obtain ⟨_,h⟩:=h
 induction rows generalizing i with
 |nil=>simp at g
 |cons y l ih=>
  have hy:=(h y (by simp)).1;rw [List.flatten_cons];cases i with
  |zero=>
   simp at g;subst g;rw [Nat.zero_mul,Nat.zero_add,gC1 (gA0 p).1];exact p
  |succ i=>
   rw [gC2 (by rw [hy,gC3];omega),hy,show (i+1)*esz+j-esz=i*esz+j by rw [gC3];omega];exact ih (by simpa using g) fun c g=>h c (by simp [g])
theorem FRowW.ofBox (h:Conc E G fr st a w) {id g cap esz:Nat} {cs:List AV} {rows:List (List AV)} (hb:st.box id=some (cs,false)) (hmp:aW id=false) (T:G.B id=some g) (C: ∃sp,cs=rows.flatten++sp) (hl:cs.length=cap*esz) (hro:RowsOk esz rows):FRowW G.σ w g cap esz rows∧E.own g:=by
 obtain ⟨g',p,I,ty,vs,hg,hr,_,J⟩:=h.box id cs false hb;replace hg:=hg.cells hmp;rw [T] at p;cases p;obtain ⟨sp,rfl⟩:=C;obtain ⟨i,P⟩:=hro.flat
 have R:vs.size=cap*esz:=by
  have r:vs.toList.length=((rows.flatten++sp).map AV.unown).length:=hr.1;rw [List.length_map,hl] at r;simpa using r
 refine ⟨⟨ty,vs,hg,R,?_,fun c U=>(hro.2 c U).1,?_,hr.one,fun j=>J j⟩,I⟩
 ·have r:rows.length*esz≤cap*esz:=by rw [←i,←hl];simp
  exact Nat.le_of_mul_le_mul_right r hro.1
 ·have:=hr.take (rows.length*esz)
  rw [←List.map_take,←i,List.take_left,P] at this;rw [←i];exact this
theorem pJ {xs:List Operand} {ts:List TypeId} {ys:List Opd} {c:AV} {as:List AV} (i:cd P xs ts=some ys) (j:evs fr ys=some (c::as)): ∃x p y g t r,xs=x::p∧bh P t x=some y∧y.ev fr=some c∧cd P p r=some g∧evs fr g=some as:=by
 cases xs with
 |nil=>cases i;cases j
 |cons x xs=>
  unfold cd at i;split at i
  ·rename_i y g hy C
   cases i;unfold evs at j;split at j
   ·rename_i b I J has
    cases j;exact ⟨x,xs,y,g,_,_,rfl,hy,J,C,has⟩
   ·cases j
  ·cases i
theorem IT (h:Conc E G fr st a w) {c:Call} {f:Operand} (ho:o.op= .call c) (hc:c.callee= .value f) {I:FuncId} {cap bs cs:List AV} {id esz i:Nat} {rows rows' :List (List AV)} {us:List Value} (hfe:a.eval f= .func (.func I) #[] us.toArray) (hus:RelL G.σ us cap)
  {x:Operand} {xs:List Operand} (hxs:c.args.toList=x::xs) (hx0:RelS G (a.eval x) (.sli id esz rows.length i)) (hrel:RelPs G.σ (xs.map a.eval) bs) (p:st.box id=some (cs,false)) (hmp:aW id=false) (hcs: ∃sp,cs=rows.flatten++sp) (hl:cs.length=i*esz) (hro:RowsOk esz rows)
  (J:MR P I esz rows (bs++cap) rows') {d:Nat} (hd:o.dst=some d) (hfd:fr d=none) (hn: ∀d,o.dst=some d→d<E.n) (hk:Then E (az fr d (.frs d esz rows')) {st with box:=upd st.box id none} K):o.wp P a w K Q:=by
 obtain ⟨_,hid,_,g0,hv,hg0⟩:=hx0;obtain ⟨g,C,R,_⟩:=h.box id cs false p;rw [←hg0 g C] at hv;obtain ⟨hF,_⟩:=FRowW.ofBox h p hmp C hcs hl hro;unfold Oper.wp;rw [dd ho hc J.cb hfe,Oper.upon_enter,hxs,List.map_cons,hv,List.cons_append];refine (J.run G.σ w g i _ h.hold hF (hrel.append hus) (E.gwb h.below)).mono fun e w' ⟨σ',g',cp,he,hx,hh,hb,j,hr⟩=> ?_
 subst he;have h2:=h.give hid p C R hF.free hb hx hh
 have hup: ∀id' g',upd G.B id none id' =some g' →id' ≠id∧G.B id' =some g' :=fun id' g' hg=>by
  rw [aB] at hg;split at hg
  ·cases hg
  ·rename_i e;exact ⟨e,hg⟩
 obtain ⟨G',hG'⟩:=h2.anew (hn d hd) hfd (g:=g') (by rcases j with e|e; ·rw [e];exact R
                                                    ·exact .inl (gB7 h.lt e)) hr
  (fun id' T=>by
   obtain ⟨k1,U⟩:=hup _ _ T;rcases j with e|e
   ·subst e;exact k1 (h.binj _ _ _ U C)
   ·have:=h.Blt id' g' U;omega)
  (fun s r hs e' =>by
   rcases j with e|e
   ·subst e;exact (h.row s r hs).2 id (by rw [e'];exact C)
   ·have:=h.ρlt s r hs;omega)
  (fun k x hk e' =>by
   obtain ⟨k1,U,k3⟩:=h.phi k x hk;rcases j with e|e
   ·subst e;exact U id (by rw [e'];exact C)
   ·have:=k1.2.lt;omega)
 rw [hd];exact hk _ _ _ hG'
theorem Gq {σ σ' :Sg} {v:Value} {r:AV} (C:r.flat=true) (h:RelR σ v r):RelR σ' v r:=by
 have one: ∀{u:Value} {x:AV},x.flat1=true→Rel1 σ u x→Rel1 σ' u x:=by
  intro u x i p;cases p with
  |int k n=>exact .int k n
  |bool b=>exact .bool b
  |str s=>exact .str s
  |_=>cases i
 have g: ∀{u:Value} {x:AV},x.flat1=true→RelP σ u x→RelP σ' u x:=by
  intro u x i p;cases x<;>first|exact one i p|cases i
 cases r with
 |tup l=>
  obtain ⟨vs,e,hl,hr⟩:=h;refine ⟨vs,e,hl,fun j u x p i=>g ?_ (hr j u x p i)⟩;exact List.all_eq_true.1 (show l.all AV.flat1=true from C) x (gA2 i)
 |int k n=>exact g (x:= .int k n) rfl h
 |bool b=>exact g (x:= .bool b) rfl h
 |str s=>exact g (x:= .str s) rfl h
 |_=>cases C
theorem IU (h:Conc E G fr st a w) {c:Call} {f:Operand} (ho:o.op= .call c) (hc:c.callee= .value f) {fid:FuncId} {cap bs cs:List AV} {id esz p:Nat} {rows:List (List AV)} {r:AV} {us:List Value} (hfe:a.eval f= .func (.func fid) #[] us.toArray) (hus:RelL G.σ us cap)
  {x:Operand} {xs:List Operand} (hxs:c.args.toList=x::xs) (hx0:RelS G (a.eval x) (.sli id esz rows.length p)) (hrel:RelPs G.σ (xs.map a.eval) bs) (hbx:st.box id=some (cs,false)) (hmp:aW id=false) (hcs: ∃sp,cs=rows.flatten++sp) (hl:cs.length=p*esz) (hro:RowsOk esz rows)
  (hfl:r.flat=true) (hAC:AC P fid (.lst .any esz rows::(bs++cap)) r) (hn: ∀d,o.dst=some d→d<E.n) (hk:Then E (match o.dst with|some d=>az fr d r|none=>fr) st K):o.wp P a w K Q:=by
 obtain ⟨_,hid,hnc,g0,T,hg0⟩:=hx0;obtain ⟨g,hB,hge,_⟩:=h.box id cs false hbx;rw [←hg0 g hB] at T;obtain ⟨⟨ty,vs,hg,hvs,hcap,hrl,hr,hone,I⟩,_⟩:=FRowW.ofBox h hbx hmp hB hcs hl hro
 have hle:G.σ.le fun b q=>if b=g then vs[q]? else G.σ b q:=fun b q v T=>by
  have:b≠g:=fun e=>by rw [e,I] at T;cases T
  simp only [if_neg this];exact T
 have hh:Holds (fun b q=>if b=g then vs[q]? else G.σ b q) w:=fun b q v hq=>by
  simp only at hq;split at hq
  ·rename_i e
   subst e;rw [cell_of_row w b q vs ty (0,0) hg];exact hq
  ·exact h.hold b q v hq
 have h0:Rel1 (fun b q=>if b=g then vs[q]? else G.σ b q) (.slice (some ⟨g,0,none⟩) rows.length p) (.lst .any esz rows):=by
  refine .lst .any esz rows _ _ p g 0 (fun i j=>vs.getD (i*esz+j) undef) rfl hcap (fun _=>rfl) (fun i c hc=>hrl c (gA2 hc)) (fun i j hi hj=> ?_) (fun i j c x hc hx=> ?_) trivial
  ·have hlt:i*esz+j<vs.size:=by
    have U:(i+1)*esz≤p*esz:=Nat.mul_le_mul_right _ (by omega);rw [gC3] at U;omega
   simp only [if_true,Nat.zero_add];rw [Array.getElem?_eq_getElem hlt,Array.getD,dif_pos hlt];rfl
  ·have U:=hro.at_ hc hx
   obtain ⟨v,C,hv2⟩:=(hr.mono hle).at_ U;rw [List.getElem?_take] at C;split at C
   ·have:vs[i*esz+j]? =some v:=by simpa using C
    simp only [Array.getD_eq_getD_getElem?,this];exact hv2
   ·cases C
 have J:RelPs (fun b q=>if b=g then vs[q]? else G.σ b q) (a.eval x::(xs.map a.eval++us)) (.lst .any esz rows::(bs++cap)):=by
  have U:=(hrel.append hus).mono hle;refine ⟨by simp [U.1],fun j v z R hz=> ?_⟩;cases j with
  |zero=>simp at R hz;subst R hz;rw [T];exact RelP.of1 h0
  |succ j=>exact U.2 j v z (by simpa using R) (by simpa using hz)
 unfold Oper.wp;rw [dd ho hc hAC.cb hfe,Oper.upon_enter,hxs,List.map_cons,List.cons_append];refine (hAC.run _ w _ hh J (E.gwb h.below)).mono fun e w' ⟨σ',v,he,hx,hh',hb,hr'⟩=> ?_
 subst he;have h2:=h.same hb;have h3:=RelS.ofR (G:=G) (Gq (σ' :=G.σ) hfl hr');cases hd:o.dst with
 |none=>exact hk G a w' (by rw [hd];exact h2)
 |some d=>
  refine hk G (a.put (some d) v) w' ?_;rw [hd];exact h2.put (hn d hd) h3
theorem dO (a:AV):a.told.unown=a.unown:=by
 cases a<;>try rfl
 rename_i t esz l;cases t<;>rfl
theorem RelB1.ofP {σ:Sg} {B:Nat→Option Nat} {v:Value} {a:AV} (h:RelP σ v a):RelB1 σ B v a:=by
 cases a<;>first
  |exact h
  |cases (h:Rel1 _ _ _)
theorem Rel1.tagB {σ:Sg} {B:Nat→Option Nat} {v:Value} {a:AV} (h:Rel1 σ v a):TagB B v a:=by cases h<;>exact trivial
theorem RelB2.of1 {σ:Sg} {B:Nat→Option Nat} {v:Value} {a:AV} (h:RelB1 σ B v a):RelB2 σ B v a:=by
 unfold RelB2;split
 ·obtain ⟨vs,e,g⟩:=(h:RelP σ v (.agg _))
  exact ⟨vs,e,by rw [g.map_unown];exact g,fun j u x i p=>(g.2 j u x i p).tagB⟩
 ·exact h
theorem RelB2.ofP {σ:Sg} {B:Nat→Option Nat} {v:Value} {a:AV} (h:RelP σ v a):RelB2 σ B v a:= .of1 (.ofP h)
theorem aY {s:Nat}: ∀{l:List Nat},bW s l=true↔s∈l
 | []=>by simp [bW]
 |x::l=>by
  unfold bW;cases hb:Nat.beq x s with
  |true=>simp [Nat.eq_of_beq_eq_true hb]
  |false=>
   have:s≠x:=fun e=>by rw [e,Nat.beq_refl] at hb;cases hb
   simp [aY,this]
def inB (B:Nat→Option Nat) (ids:List Nat):Nat→Option Nat:=fun id=>match bW id ids with
 |true=>B id
 |false=>none
theorem bn {B:Nat→Option Nat} {ids:List Nat} {id g:Nat} (h:inB B ids id=some g):id∈ids∧B id=some g:=by
 unfold inB at h;split at h
 ·rename_i i;exact ⟨aY.1 i,h⟩
 ·cases h
theorem lz {B:Nat→Option Nat} {ids:List Nat} {id:Nat} (h:id∈ids):inB B ids id=B id:=by
 unfold inB;rw [aY.2 h]
theorem TagOk.toB {G:Gho} {v:Value} {a:AV} {ids:List Nat} (h:TagOk G v a):TagB (inB G.B ids) v a.told:=by
 cases a<;>first
  |exact trivial
  |(obtain ⟨p,g,i,j⟩:=h;exact ⟨g,i,fun g' hg=>j g' (bn hg).2⟩)
  |(obtain ⟨p,hn,g,i,j⟩:=h;exact ⟨hn,g,i,fun g' hg=>j g' (bn hg).2⟩)
  |(rename_i t _ _;cases t<;>exact trivial)
theorem ma (h:Conc E G fr st a w) (ids:List Nat): ∀{xs:List Operand} {ts:List TypeId} {ys:List Opd} {as T:List AV},cd P xs ts=some ys→evs fr ys=some as→eZ as=some T→RelBs G.σ (inB G.B ids) (xs.map a.eval) T
 | [],ts,ys,as,T,r,C,i=>by cases r;cases C;cases i;exact ⟨rfl,fun j v x U=>by simp at U⟩
 |x::xs,ts,ys,as,T,r,C,i=>by
  unfold cd at r;split at r
  ·rename_i y ys' hy hys
   cases r;unfold evs at C;split at C
   ·rename_i c as' hc has
    cases C
    have key: ∃b R,T=b::R∧eZ as' =some R∧RelB1 G.σ (inB G.B ids) (a.eval x) b:=by
     have I:=h.ev hy hc;unfold eZ at i;split at i
     ·rename_i heq;cases heq
     ·rename_i id off l heq
      cases heq;split at i
      ·rename_i J p
       cases i;obtain ⟨_,_,g,r,C⟩:=I;exact ⟨_,_,rfl,p,g,r,fun g' hg=>C g' (bn hg).2⟩
      ·cases i
     ·rename_i id off l heq
      cases heq;split at i
      ·rename_i J p
       cases i;obtain ⟨g,r,C,i⟩:=I;exact ⟨_,_,rfl,p,g,C.trans (ef (yB i) _ _).symm,fun g' hg=>by have:=(bn hg).2;rw [r] at this;cases this;rfl⟩
      ·cases i
     ·rename_i id e n c' l heq
      cases heq;split at i
      ·rename_i J p
       cases i;obtain ⟨_,_,hn,g,r,C⟩:=I;exact ⟨_,_,rfl,p,hn,g,r,fun g' hg=>C g' (bn hg).2⟩
      ·cases i
     ·rename_i e k l heq
      cases heq;split at i
      ·rename_i J p
       cases i;exact ⟨_,_,rfl,p,I.1⟩
      ·cases i
     ·rename_i c' l _ _ _ _ heq
      cases heq;split at i
      ·rename_i b J hb p
       cases i;exact ⟨_,_,rfl,p,.ofP (I.arg hb)⟩
      ·cases i
    obtain ⟨b,R,rfl,hbs,h0⟩:=key;have ih:=ma h ids hys has hbs;refine ⟨by simp [ih.1],fun j v z U hz=> ?_⟩;cases j with
    |zero=>simp at U hz;subst U hz;exact h0
    |succ j=>exact ih.2 j v z (by simpa using U) (by simpa using hz)
   ·cases C
  ·cases r
theorem RelBs.append {σ:Sg} {B:Nat→Option Nat} {vs us:List Value} {p cap:List AV} (h:RelBs σ B vs p) (r:RelL σ us cap):RelBs σ B (vs++us) (p++cap):=by
 refine ⟨by simp [h.1,r.1],fun j v z g i=> ?_⟩;by_cases C:j<vs.length
 ·rw [gC1 C] at g
  rw [gC1 (by rw [←h.1];exact C)] at i;exact h.2 j v z g i
 ·rw [gC2 (by omega)] at g
  rw [gC2 (by rw [←h.1];omega),←h.1] at i;exact .ofP (RelP.of1 (r.2 _ v z g i))
theorem iV {b:Nat→Option (List AV×Bool)}: ∀{ids:List Nat} {S:List (Nat×List AV)},iT b ids=some S→aL S=ids∧ ∀x∈S,∃cs,b x.1=some (cs,false)∧x.2=cs.map AV.told
 | [],S,h=>by cases h;exact ⟨rfl,fun x g=>by cases g⟩
 |id::l,S,h=>by
  unfold iT at h;split at h
  ·rename_i cs r hb hr
   cases h;obtain ⟨i,j⟩:=iV hr;refine ⟨by show id::aL r=_;rw [i],fun x g=> ?_⟩;rcases gB2 g with rfl|g
   ·exact ⟨cs,hb,rfl⟩
   ·exact j x g
  ·cases h
theorem ot: ∀{S:List (Nat×List AV)} {id:Nat} {cs:List AV},pD S id=some cs→(id,cs)∈S
 |(i,c)::l,id,cs,h=>by
  unfold pD at h;split at h
  ·rename_i hb;cases h;rw [Nat.eq_of_beq_eq_true hb];simp
  ·exact List.mem_cons_of_mem _ (ot h)
theorem iW: ∀{S:List (Nat×List AV)} {id:Nat},pD S id=none→id∉aL S
 | [],id,_=>by simp [aL]
 |(i,c)::l,id,h=>by
  unfold pD at h;split at h
  ·cases h
  ·rename_i hb
   have:id≠i:=fun e=>by rw [e,Nat.beq_refl] at hb;cases hb
   have ih:=iW h;show id∉i::aL l;simp [this,ih]
theorem eL {ids:List Nat}: ∀{S:List (Nat×List AV)} {id:Nat},id∈ap ids S↔id∈aL S∧id∉ids
 | [],id=>by simp [ap,aL]
 |(i,c)::l,id=>by
  unfold ap;have e:aL ((i,c)::l)=i::aL l:=rfl;rw [e];split
  ·rename_i j
   have j:=aY.1 j;rw [eL];constructor
   ·rintro ⟨g,p⟩;exact ⟨List.mem_cons_of_mem _ g,p⟩
   ·rintro ⟨g,p⟩
    rcases gB2 g with rfl|g
    ·exact absurd j p
    ·exact ⟨g,p⟩
  ·rename_i j
   have j:i∉ids:=fun e=>by rw [aY.2 e] at j;cases j
   rw [List.mem_cons,eL];constructor
   ·rintro (rfl|⟨g,p⟩)
    ·exact ⟨by simp,j⟩
    ·exact ⟨List.mem_cons_of_mem _ g,p⟩
   ·rintro ⟨g,p⟩
    rcases gB2 g with rfl|g
    ·exact .inl rfl
    ·exact .inr ⟨g,p⟩
theorem ns {b:Nat→Option (List AV×Bool)}: ∀{N:List Nat},aX b N=true→ ∀i∈N,b i=none∧1000000≤i∧i<2000000
 | [],_,i,hi=>by cases hi
 |x::l,h,i,hi=>by
  unfold aX at h;split at h
  ·rename_i hb
   simp only [gA9] at h;rcases gB2 hi with rfl|hi
   ·exact ⟨hb,Nat.le_of_ble_eq_true h.1.1,Nat.le_of_ble_eq_true h.1.2⟩
   ·exact ns h.2 i hi
  ·cases h
theorem tO: ∀a:AV,db [] a=a:=by intro a;cases a<;>rfl
theorem Gr: ∀a:AV,CC [] a=a:=by
 intro a;cases a<;>try rfl
 rename_i cs;show AV.agg (cs.map (db []))=_;rw [show db []=id from funext tO,List.map_id]
theorem tP: ∀a:AV,Ai [] a=a:=by
 intro a;cases a<;>try rfl
 ·rename_i cs
  show AV.agg (cs.map (db []))=_;rw [show db []=id from funext tO,List.map_id]
 ·rename_i cs
  show AV.tup (cs.map (CC []))=_;rw [show CC []=id from funext Gr,List.map_id]
theorem Gs: ∀a:AV,yE [] a=a:=by
 intro a;cases a with
 |when c x=>show AV.when c (Ai [] x)=_;rw [tP]
 |agg cs=>exact tP (.agg cs)
 |tup cs=>exact tP (.tup cs)
 |_=>rfl
theorem ou (N:List Nat) (fr:Fr) (s:Nat):dN N fr s=(fr s).map (yE N):=by
 cases N with
 |nil=>
  show fr s=_;cases fr s with
  |none=>rfl
  |some a=>simp [Gs]
 |cons i N=>
  show (match fr s with|some a=>some (yE (i::N) a)|none=>none)=_;cases fr s<;>rfl
theorem Ec (N:List Nat) (b:Nat→Option (List AV×Bool)) (k:Nat):gc N b k=(b k).map fun x=>(x.1.map (db N),x.2):=by
 cases N with
 |nil=>
  show b k=_;cases b k with
  |none=>rfl
  |some x=>simp [show db []=id from funext tO]
 |cons i N=>
  show (match b k with|some (ds,fz)=>some (ds.map (db (i::N)),fz)|none=>none)=_;cases b k<;>rfl
structure Gho.leN (N:List Nat) (G G' :Gho):Prop where
 σ:G.σ.le G'.σ
 ρ:G'.ρ=G.ρ
 φ:G'.φ=G.φ
 B: ∀id g,1000000≤id→id∉N→G'.B id=some g→G.B id=some g
 lo: ∀id g,id<1000000→G.B id=some g→G'.B id=some g
theorem Al {N:List Nat} {G' :Gho} (i:G.leN N G') {v:Value} {x:AV} (h:Rel1 G.σ v x.unown∧TagOk G v x):Rel1 G'.σ v (db N x).unown∧TagOk G' v (db N x):=by
 have P: ∀{id:Nat},bW id N=false→id∉N:=fun e R=>by rw [aY.2 R] at e;cases e
 cases x with
 |np id off=>
  obtain ⟨j,I,g,p,C⟩:=h;simp only [db];cases J:bW id N with
  |true=>exact ⟨j.mono i.σ,trivial⟩
  |false=>exact ⟨j.mono i.σ,I,g,p,fun g' hg=>C g' (i.B _ _ I (P J) hg)⟩
 |sli id e n c=>
  obtain ⟨j,I,hn,g,p,C⟩:=h;simp only [db];cases J:bW id N with
  |true=>exact ⟨j.mono i.σ,trivial⟩
  |false=>exact ⟨j.mono i.σ,I,hn,g,p,fun g' hg=>C g' (i.B _ _ I (P J) hg)⟩
 |frs k e r=>
  obtain ⟨j,g,cap,p,C⟩:=h;exact ⟨j.mono i.σ,g,cap,by rw [i.φ];exact p,C⟩
 |lst t e l=>
  refine ⟨h.1.mono i.σ,?_⟩;cases t with
  |own s ver=>exact h.2.imp id fun ⟨g,cap,p,C⟩=>⟨g,cap,p,by rw [i.ρ];exact C⟩
  |_=>exact trivial
 |_=>exact ⟨h.1.mono i.σ,trivial⟩
theorem mb {N:List Nat} {G' :Gho} (p:G.leN N G') {vs:List Value} {cs:List AV} (h:RelL G.σ vs (cs.map AV.unown)) (ht:TagsOk G vs cs):RelL G'.σ vs ((cs.map (db N)).map AV.unown)∧TagsOk G' vs (cs.map (db N)):=by
 have key: ∀(j:Nat) v b,vs[j]? =some v→cs[j]? =some b→_:=fun j v b i hb=>Al (v:=v) (x:=b) p ⟨h.2 j v _ i (by rw [gA8,hb];rfl),ht j v b i hb⟩
 refine ⟨⟨by have:=h.1;simpa using this,fun j v b i hb=> ?_⟩,fun j v b i hb=> ?_⟩
 ·rw [List.map_map,gA8] at hb
  cases g:cs[j]? with
  |none=>rw [g] at hb;cases hb
  |some c=>rw [g] at hb;cases hb;exact (key j v c i g).1
 ·rw [gA8] at hb
  cases g:cs[j]? with
  |none=>rw [g] at hb;cases hb
  |some c=>rw [g] at hb;cases hb;exact (key j v c i g).2
theorem Gt {N:List Nat} {G' :Gho} (i:G.leN N G') {v:Value} {x:AV} (h:RelT G v x):RelT G' v (CC N x):=by
 have P: ∀{id:Nat},bW id N=false→id∉N:=fun e R=>by rw [aY.2 R] at e;cases e
 cases x with
 |np id off=>
  obtain ⟨j,I,g,p,C⟩:=h;simp only [CC,db];cases J:bW id N with
  |true=>exact (j.mono i.σ:Rel1 G'.σ v .top)
  |false=>exact ⟨j.mono i.σ,I,g,p,fun g' hg=>C g' (i.B _ _ I (P J) hg)⟩
 |sli id e n c=>
  obtain ⟨j,I,hn,g,p,C⟩:=h;simp only [CC,db];cases J:bW id N with
  |true=>exact (j.mono i.σ:Rel1 G'.σ v .top)
  |false=>exact ⟨j.mono i.σ,I,hn,g,p,fun g' hg=>C g' (i.B _ _ I (P J) hg)⟩
 |frs k e r=>
  obtain ⟨j,g,cap,p,C⟩:=h;exact ⟨j.mono i.σ,g,cap,by rw [i.φ];exact p,C⟩
 |agg cs=>
  obtain ⟨vs,e,j,p⟩:=h;obtain ⟨C,T⟩:=mb i j p;exact ⟨vs,e,C,T⟩
 |_=>exact RelT.of (RelP.mono i.σ (RelT.plain h rfl))
theorem Am {N:List Nat} {G' :Gho} (g:G.leN N G') {v:Value} {x:AV} (h:RelS0 G v x):RelS0 G' v (Ai N x):=by
 have T: ∀{id:Nat},bW id N=false→id∉N:=fun e U=>by rw [aY.2 U] at e;cases e
 have one: ∀x:AV,(Rel1 G.σ v x.unown∧TagOk G v x)→_:=fun x I=>Al (v:=v) (x:=x) g I
 cases x with
 |agg cs=>
  obtain ⟨vs,e,p,C⟩:=h;obtain ⟨J,h4⟩:=mb g p C;exact ⟨vs,e,J,h4⟩
 |pel i e j k c=>
  obtain ⟨p,g',C,J⟩:=h;simp only [Ai];cases P:bW i N with
  |true=>exact ⟨(by rw [C];exact .top _ rfl:Rel1 G'.σ v .top),trivial⟩
  |false=>exact ⟨p,g',C,fun R hg=>J R (g.B _ _ p (T P) hg)⟩
 |ptr i off=>
  obtain ⟨g',p,C,J⟩:=h;exact ⟨g',g.lo _ _ (by omega) p,C,J⟩
 |tup l=>
  obtain ⟨vs,e,p,C⟩:=h;refine ⟨vs,e,by rw [p,List.length_map],fun j u x hu I=> ?_⟩;rw [gA8] at I;cases hl:l[j]? with
  |none=>rw [hl] at I;cases I
  |some y=>rw [hl] at I;cases I;exact Gt g (C j u y hu hl)
 |when c x=>exact h.elim
 |np id off=>
  have:=one _ h;simp only [Ai,db] at this⊢;split<;>(rename_i P;rw [P] at this;exact this)
 |sli i e n c=>
  have:=one _ h;simp only [Ai,db] at this⊢;split<;>(rename_i P;rw [P] at this;exact this)
 |frs k e r=>exact one _ h
 |int k n=>exact one _ h
 |bool b=>exact one _ h
 |str s=>exact one _ h
 |lst t e l=>exact one _ h
 |ro cs=>exact one _ h
 |fn f cap=>exact one _ h
 |raw v=>exact one _ h
 |top=>exact one _ h
theorem An {N:List Nat} {G' :Gho} (g:G.leN N G') {v:Value} {x:AV} (h:RelS G v x):RelS G' v (yE N x):=by
 have i: ∀{x:AV},RelS0 G' v x→RelS G' v x:=fun {x} h=>by cases x<;>first|exact h|exact h.elim
 cases x with
 |when c a=>exact ⟨fun j=>Am g (h.1 j),h.2⟩
 |_=>exact i (Am g (by simp only [RelS] at h;exact h))
theorem xw {σ' :Sg} {B' :Nat→Option Nat} {G' :Gho} {ids:List Nat} (hσ:G'.σ=σ') (J: ∀id∈ids,G'.B id=B' id) {v:Value} {r:AV} (p:r.told1 ids=true) (h:RelB2 σ' B' v r):RelS G' v r∧RelT G' v r:=by
 subst hσ
 have plain: ∀{r:AV},RelP G'.σ v r→RelS G' v r:=fun {r} h=>by
  cases r<;>first
   |exact RelS.of1 h
   |(obtain ⟨us,P,R⟩:=h;exact ⟨us,P,by rw [R.map_unown];exact R,R.tags⟩)
 cases r with
 |np id off=>
  simp only [AV.told1,gA9] at p;obtain ⟨g,C,I⟩:=h;have T:=aY.1 p.2;have:RelS G' v (.np id off):=⟨by rw [C];exact .top _ (D6 _ _ _),Nat.le_of_ble_eq_true p.1,g,C,fun g' hg=>I g' (by rw [←J id T];exact hg)⟩
  exact ⟨this,this⟩
 |sli id e n c=>
  simp only [AV.told1,gA9] at p;obtain ⟨hn,g,C,I⟩:=h;have T:=aY.1 p.2;have:RelS G' v (.sli id e n c):=⟨by rw [C];exact .top _ rfl,Nat.le_of_ble_eq_true p.1,hn,g,C,fun g' hg=>I g' (by rw [←J id T];exact hg)⟩
  exact ⟨this,this⟩
 |frs k e r=>cases p
 |agg cs=>
  obtain ⟨us,P,C,I⟩:=h
  have ht:TagsOk G' us cs:=fun j u x hu hx=>by
   have i:x.inS ids=true:=List.all_eq_true.1 p x (gA2 hx);have h3:=I j u x hu hx;cases x with
   |np id off=>
    simp only [AV.inS,gA9] at i;obtain ⟨g,U,k2⟩:=h3;exact ⟨Nat.le_of_ble_eq_true i.1,g,U,fun g' hg=>k2 g' (by rw [←J id (aY.1 i.2)];exact hg)⟩
   |sli id e n c=>
    simp only [AV.inS,gA9] at i;obtain ⟨k0,g,U,k2⟩:=h3;exact ⟨Nat.le_of_ble_eq_true i.1,k0,g,U,fun g' hg=>k2 g' (by rw [←J id (aY.1 i.2)];exact hg)⟩
   |lst t e l=>cases t<;>first|exact trivial|cases i
   |frs k e r=>cases i
   |_=>exact trivial
  exact ⟨⟨us,P,C,ht⟩,⟨us,P,C,ht⟩⟩
 |tup l=>cases p
 |_=>exact ⟨plain h,h⟩
theorem pK {σ' :Sg} {B' :Nat→Option Nat} {G' :Gho} {ids:List Nat} (g:G'.σ=σ') (i: ∀id∈ids,G'.B id=B' id) {v:Value} {r:AV} (p:(match r with| .tup l=>l.all (AV.told1 ids)|r=>r.told1 ids)=true) (h:RelB σ' B' v r):RelS G' v r:=by
 cases r with
 |tup l=>
  obtain ⟨vs,e,I,J⟩:=h;exact ⟨vs,e,I,fun j u x P C=>(xw g i (List.all_eq_true.1 p x (gA2 C)) (J j u x P C)).2⟩
 |_=>exact (xw g i p h).1
theorem Conc.handed (h:Conc E G fr st a w) {ids:List Nat} {S S' :List (Nat×List AV)} {r:AV} (hS:iT st.box ids=some S) (hok:okS ids S' r=true) (hfree:aX st.box (ap ids S')=true)
  {σ' :Sg} {w' :World} {B' :Nat→Option Nat} (hx:ExtK (fun b=> ∃id,inB G.B ids id=some b) G.σ σ' w.heap.size) (hh:Holds σ' w') (hb:BelowK (fun b=> ∃id,inB G.B ids id=some b) w w') (hdom: ∀id g,B' id=some g→id∈aL S') (hinj: ∀id id' g,B' id=some g→B' id' =some g→id=id')
  (hat:BoxesAt σ' w' B' S') (hrange: ∀id g,B' id=some g→(∃id',inB G.B ids id' =some g)∨w.heap.size≤g) (U: ∀id g g',inB G.B ids id=some g→B' id=some g' →g=g'):
  ∃G',Conc E G' (dN (ap ids S') fr) ⟨ig (gc (ap ids S') st.box) ids S',st.row⟩ a w' ∧G'.σ=σ' ∧ ∀id∈aL S',G'.B id=B' id:=by
 obtain ⟨hd1,hd2⟩:=iV hS;unfold okS at hok;simp only [gA9] at hok;obtain ⟨⟨ho1,ho2⟩,_⟩:=hok
 have hids: ∀id∈ids,∃cs g,st.box id=some (cs,false)∧G.B id=some g:=fun id hid=>by
  rw [←hd1] at hid;obtain ⟨x,hx,e⟩:=List.mem_map.1 hid;obtain ⟨cs,p,_⟩:=hd2 x hx;rw [e] at p;obtain ⟨g,C,_⟩:=h.box id cs false p;exact ⟨cs,g,p,C⟩
 have hKB: ∀g,(∃id,inB G.B ids id=some g)→ ∃id∈ids,G.B id=some g:=fun g ⟨id,hid⟩=>⟨id,bn hid⟩
 have hown: ∀g,(∃id,inB G.B ids id=some g)→E.own g:=fun g hg=>by
  obtain ⟨id,hid,hB⟩:=hKB g hg;obtain ⟨cs,g',p,C⟩:=hids id hid;obtain ⟨g2,P,k4,_⟩:=h.box id cs false p;rw [hB] at P;cases P;exact k4
 have hown' : ∀g,(∃id,inB G.B ids id=some g)∨w.heap.size≤g→E.own g:=fun g hg=>by
  rcases hg with hg|hg
  ·exact hown g hg
  ·exact .inl (gB7 h.lt hg)
 have hNI: ∀i∈ap ids S',st.box i=none∧1000000≤i∧i<2000000:=ns hfree
 let B2:Nat→Option Nat:=fun id=>if id∈aL S' then B' id else if id∈ids then none else G.B id
 have b1: ∀id,id∈aL S' →B2 id=B' id:=fun id hid=>if_pos hid
 have b2: ∀id g,B2 id=some g→(id∈aL S' ∧B' id=some g)∨(id∉aL S' ∧id∉ids∧G.B id=some g):=fun id g hg=>by
  simp only [B2] at hg;split at hg
  ·rename_i e;exact .inl ⟨e,hg⟩
  ·rename_i e
   split at hg
   ·cases hg
   ·rename_i e2;exact .inr ⟨e,e2,hg⟩
 have apart: ∀id g,id∉ids→G.B id=some g→ ¬((∃id',inB G.B ids id' =some g)∨w.heap.size≤g):=fun id g hid hg hc=>by
  rcases hc with hc|hc
  ·obtain ⟨id',hid',hB⟩:=hKB g hc
   have:=h.binj id id' g hg hB;subst this;exact hid hid'
  ·have:=h.Blt id g hg;omega
 have old: ∀id g,B2 id=some g→(id∈aL S' ∧B' id=some g∧((∃id',inB G.B ids id' =some g)∨w.heap.size≤g))∨(id∉ids∧G.B id=some g):=fun id g hg=>by
  rcases b2 id g hg with ⟨p,C⟩|⟨p,C,P⟩
  ·exact .inl ⟨p,C,hrange id g C⟩
  ·exact .inr ⟨C,P⟩
 have hnotK: ∀g,g<w.heap.size→ ¬(∃id,inB G.B ids id=some g)→w'.heap[g]? =w.heap[g]? ∧ ∀j,σ' g j=G.σ g j:=fun g hg hn=>⟨hb.block g hg hn,fun j=>hx.2 g j hg hn⟩
 have hle:G.leN (ap ids S') {G with σ:=σ',B:=B2}:={
  σ:=hx.1
  ρ:=rfl
  φ:=rfl
  B:=fun id g hid hn hg=>by
   rcases b2 id g hg with ⟨p,C⟩|⟨p,C,P⟩
   ·by_cases I:id∈ids
    ·obtain ⟨cs,g0,q1,R⟩:=hids id I
     have:=U id g0 g (by rw [lz I];exact R) C;rw [←this];exact R
    ·exact absurd (eL.2 ⟨p,I⟩) hn
   ·exact P
  lo:=fun id g hid hg=>by
   show B2 id=some g;by_cases I:id∈ids
   ·have h1:=List.all_eq_true.1 ho1 id I
    have h2:Nat.ble 1000000 id=false:=by
     cases hq:Nat.ble 1000000 id with
     |false=>rfl
     |true=>have:=Nat.le_of_ble_eq_true hq;omega
    rw [h2,Bool.false_or] at h1;have h3:=aY.1 h1;rw [b1 id h3];obtain ⟨x,hx3,e⟩:=List.mem_map.1 h3;obtain ⟨g',t,vs,p,_⟩:=hat x.1 x.2 hx3;rw [e] at p;rw [p,←U id g g' (by rw [lz I];exact hg) p]
   ·have h3:id∉aL S' :=fun hc=>by
     have:=(hNI id (eL.2 ⟨hc,I⟩)).2.1;omega
    simp only [B2,if_neg h3,if_neg I];exact hg}
 have hput: ∀id,ig (gc (ap ids S') st.box) ids S' id=(match pD S' id with
   |some cs=>some (cs,false)
   |none=>if id∈ids then none else (st.box id).map fun x=>(x.1.map (db (ap ids S')),x.2)):=fun id=>by
  unfold ig;cases pD S' id with
  |some cs=>rfl
  |none=>
   simp only;cases I:bW id ids with
   |true=>rw [if_pos (aY.1 I)]
   |false=>rw [if_neg (fun e=>by rw [aY.2 e] at I;cases I),Ec]
 refine ⟨{G with σ:=σ',B:=B2},{
  defers:=h.defers
  size:=h.size
  slots:=fun s x J=> ?_
  hold:=hh
  ext:=h.ext.trans hx h.lt fun b hb=>(hown b hb).symm
  below:=h.below.trans hb fun b hb=>(hown b hb).symm
  box:=fun id cs fz J=> ?_
  bnone:=fun id J=> ?_
  binj:=fun id1 id2 g h1 h2=> ?_
  row:=fun s r J=> ?_
  rinj:=h.rinj
  rlt:=h.rlt
  phi:=fun k x hk=> ?_
  phinj:=h.phinj
  pnone:=fun k hk=>h.pnone k (by
   rw [ou] at hk;cases hf:fr k with
   |none=>rfl
   |some y=>rw [hf] at hk;cases hk)
  small:=h.small
  keep:=fun id g h2 hg=> ?_},rfl,b1⟩
 ·rw [ou] at J
  cases hf:fr s with
  |none=>rw [hf] at J;cases J
  |some y=>rw [hf] at J;cases J;exact An hle (h.slots s y hf)
 ·rw [show (⟨ig (gc (ap ids S') st.box) ids S',st.row⟩:St).box id=ig (gc (ap ids S') st.box) ids S' id from rfl,hput] at J
  split at J
  ·rename_i cs' hg
   cases J;have I:=ot hg;have hd:id∈aL S' :=List.mem_map.2 ⟨_,I,rfl⟩;obtain ⟨g,t,vs,p,C,P,k4,k5⟩:=hat id cs I;refine ⟨g,by rw [←b1 id hd] at p;exact p,hown' g (hrange id g p),t,vs,C,P,fun j v c hv hc=> ?_,fun j=>k5 j⟩;have T:=List.all_eq_true.1 (List.all_eq_true.1 ho2 _ I) c (gA2 hc);have ht:=k4 j v c hv hc;cases c with
   |np i o=>
    simp only [AV.inS,gA9] at T;obtain ⟨g2,q1,R⟩:=ht;exact ⟨Nat.le_of_ble_eq_true T.1,g2,q1,fun g' hg' =>R g' (by rw [←b1 i (aY.1 T.2)];exact hg')⟩
   |sli i e n c=>
    simp only [AV.inS,gA9] at T;obtain ⟨qn,g2,q1,R⟩:=ht;exact ⟨Nat.le_of_ble_eq_true T.1,qn,g2,q1,fun g' hg' =>R g' (by rw [←b1 i (aY.1 T.2)];exact hg')⟩
   |lst t e l=>cases t<;>first|trivial|cases T
   |frs k e r=>cases T
   |_=>trivial
  ·rename_i hg
   have hd:=iW hg;split at J
   ·cases J
   ·rename_i I
    cases hbx:st.box id with
    |none=>rw [hbx] at J;cases J
    |some x=>
     rw [hbx] at J;cases J;obtain ⟨g,p,C,t,vs,P,k4,k5,k6⟩:=h.box id x.1 x.2 hbx;obtain ⟨q1,R⟩:=hnotK g P.lt fun hc=>apart id g I p (.inl hc)
     obtain ⟨q3,q4⟩:=mb hle k4 k5;refine ⟨g,by show B2 id=_;simp only [B2,if_neg hd,if_neg I];exact p,C,t,vs,P.of q1,q3,q4,?_⟩;cases hf:x.2 with
     |true=>rw [hf] at k6;exact fun j v hv=>hx.1 _ _ _ (k6 j v hv)
     |false=>rw [hf] at k6;exact fun j=>(R j).trans (k6 j)
 ·rw [show (⟨ig (gc (ap ids S') st.box) ids S',st.row⟩:St).box id=ig (gc (ap ids S') st.box) ids S' id from rfl,hput] at J
  show B2 id=none;split at J
  ·cases J
  ·rename_i hg
   have hd:=iW hg;simp only [B2,if_neg hd];split at J
   ·rename_i I;rw [if_pos I]
   ·rename_i I
    rw [if_neg I];cases hbx:st.box id with
    |none=>exact h.bnone id hbx
    |some x=>rw [hbx] at J;cases J
 ·rcases old id1 g h1 with ⟨p,C,P⟩|⟨p,C⟩<;>rcases old id2 g h2 with ⟨q1,R,q3⟩|⟨q1,R⟩
  ·exact hinj id1 id2 g C R
  ·exact absurd P (apart id2 g q1 R)
  ·exact absurd q3 (apart id1 g p C)
  ·exact h.binj id1 id2 g C R
 ·obtain ⟨⟨p,e,cur,P,k4,k5,k8⟩,k9⟩:=h.row s r J
  have hn: ¬ ∃id,inB G.B ids id=some r.g:=fun hc=>by
   obtain ⟨id,_,hB⟩:=hKB _ hc;exact k9 id hB
  obtain ⟨q1,R⟩:=hnotK r.g (cQ P) hn;refine ⟨⟨p,e,cur,by rw [q1];exact P,k4,k5,fun j hj=>(R j).trans (k8 j hj)⟩,fun id hid=> ?_⟩;rcases old id r.g hid with ⟨_,_,q⟩|⟨_,q⟩
  ·rcases q with q|q
   ·exact hn q
   ·have:=cQ P;omega
  ·exact k9 id q
 ·obtain ⟨⟨p,C⟩,P,k4⟩:=h.phi k x hk
  have hn: ¬ ∃id,inB G.B ids id=some x.g:=fun hc=>by
   obtain ⟨id,_,hB⟩:=hKB _ hc;exact P id hB
  obtain ⟨q1,R⟩:=hnotK x.g C.lt hn;refine ⟨⟨p,C.on hx.1 q1 fun j=>(R j).trans (C.free j)⟩,fun id hid=> ?_,k4⟩;rcases old id x.g hid with ⟨_,_,q⟩|⟨_,q⟩
  ·rcases q with q|q
   ·exact hn q
   ·have:=C.lt;omega
  ·exact P id q
 ·rcases b2 id g hg with ⟨p,C⟩|⟨p,C,P⟩
  ·by_cases I:id∈ids
   ·obtain ⟨cs,g0,q1,R⟩:=hids id I
    have:=U id g0 g (by rw [lz I];exact R) C;rw [←this];exact h.keep id g0 h2 R
   ·have:=(hNI id (eL.2 ⟨p,I⟩)).2.2;omega
  ·exact h.keep id g h2 P
theorem IV (h:Conc E G fr st a w) {c:Call} {f:Operand} (ho:o.op= .call c) (C:c.callee= .value f) {fid:FuncId} {cap as bs:List AV} {ids:List Nat} {S S' :List (Nat×List AV)} {r:AV} {us:List Value} {ts:List TypeId} {ys:List Opd} (hfe:a.eval f= .func (.func fid) #[] us.toArray) (hus:RelL G.σ us cap)
  (I:cd P c.args.toList ts=some ys) (hav:evs fr ys=some as) (hbs:eZ as=some bs) (hS:iT st.box ids=some S) (i:okS ids S' r=true) (J:aX st.box (ap ids S')=true) (hMS:MS P fid S (bs++cap) S' r) (hn: ∀d,o.dst=some d→d<E.n)
  (hk:Then E (match o.dst with|some d=>az (dN (ap ids S') fr) d r|none=>dN (ap ids S') fr) ⟨ig (gc (ap ids S') st.box) ids S',st.row⟩ K):o.wp P a w K Q:=by
 obtain ⟨R,hd2⟩:=iV hS;have hrel:=(ma h ids I hav hbs).append (cap:=cap) hus;unfold Oper.wp;rw [dd ho C hMS.cb hfe,Oper.upon_enter];have hgw:=E.gwb h.below
 have hat:BoxesAt G.σ w (inB G.B ids) S:=fun id cs hm=>by
  obtain ⟨cs0,k1,k2⟩:=hd2 _ hm;simp only at k1 k2;subst k2;obtain ⟨g,q1,q2,t,vs,q3,q4,q5,q6⟩:=h.box id cs0 false k1;have hid:id∈ids:=by rw [←R];exact List.mem_map.2 ⟨_,hm,rfl⟩
  refine ⟨g,t,vs,by rw [lz hid];exact q1,q3,?_,fun j v c hv C=> ?_,fun j=>q6 j⟩
  ·rw [List.map_map,show AV.unown∘AV.told=AV.unown from funext dO]
   exact q4
  ·rw [gA8] at C
   cases T:cs0[j]? with
   |none=>rw [T] at C;cases C
   |some c0=>rw [T] at C;cases C;exact (q5 j v c0 (by simpa using hv) T).toB
 refine (hMS.run G.σ w (inB G.B ids) _ h.hold hgw (fun id g hg=>by rw [R];exact (bn hg).1) (fun id id' g h1 h2=>h.binj id id' g (bn h1).2 (bn h2).2) (fun id g hg=> ?_) hat hrel).mono fun e w' ⟨σ',v,B',he,hx,hh,hb,hdom,hinj,hat',hr,p,U⟩=> ?_
 ·obtain ⟨k1,k2⟩:=bn hg
  rw [←R] at k1;obtain ⟨x,hxS,e⟩:=List.mem_map.1 k1;obtain ⟨cs,q1,_⟩:=hd2 x hxS;rw [e] at q1;obtain ⟨g',q2,q3,_⟩:=h.box id cs false q1;rw [k2] at q2;cases q2;exact E.ownGl q3
 ·subst he
  obtain ⟨G',hG',hσ,hB⟩:=h.handed hS i J hx hh hb hdom hinj hat' p U;cases hd:o.dst with
  |none=>exact hk G' a w' (by rw [hd];exact hG')
  |some d=>
   refine hk G' (a.put (some d) v) w' ?_;rw [hd];refine hG'.put (hn d hd) (pK hσ hB ?_ hr);unfold okS at i;simp only [gA9] at i;exact i.2
theorem ov (h:Conc E G fr st a w) {mo:MO} {d0:Option Nat} {xs:List Operand} {ts:List TypeId} {ys:List Opd} (hex: ∀nx w',(D7 mo (xs.map a.eval)).run P w= .ok nx w' →(execOp a.eval o).run P w= .ok nx w') (hd0:d0=o.dst) (hdv:mo.val=false→o.dst=none) (J:cd P xs ts=some ys) (hs:ah P (.mop mo d0 ys) rs fr st=some (fr',st',p)) (hp:p) (hn: ∀d,o.dst=some d→d<E.n) (hk:Then E fr' st' K):o.wp P a w K Q:=by
 subst hd0;simp only [ah] at hs;split at hs
 ·rename_i as ids S' r hav
  split at hs
  ·rename_i bs S hbs hS
   cases hs;obtain ⟨hM,I⟩:=hp;rw [gA9] at I;obtain ⟨i,R⟩:=I;obtain ⟨T,hd2⟩:=iV hS;have hrel:=ma h ids J hav hbs
   have hat:BoxesAt G.σ w (inB G.B ids) S:=fun id cs hm=>by
    obtain ⟨cs0,k1,k2⟩:=hd2 _ hm;simp only at k1 k2;subst k2;obtain ⟨g,q1,q2,t,vs,q3,q4,q5,q6⟩:=h.box id cs0 false k1;have hid:id∈ids:=by rw [←T];exact List.mem_map.2 ⟨_,hm,rfl⟩
    refine ⟨g,t,vs,by rw [lz hid];exact q1,q3,?_,fun j v c hv hc=> ?_,fun j=>q6 j⟩
    ·rw [List.map_map,show AV.unown∘AV.told=AV.unown from funext dO]
     exact q4
    ·rw [gA8] at hc
     cases U:cs0[j]? with
     |none=>rw [U] at hc;cases hc
     |some c0=>rw [U] at hc;cases hc;exact (q5 j v c0 (by simpa using hv) U).toB
   obtain ⟨nx,w',σ',v,B',hrun,hnx,hx,hh,hb,hdom,hinj,hat',hr,C,hkept⟩:=hM.run G.σ w (inB G.B ids) _ h.hold (E.gwb h.below) (fun id g hg=>by rw [T];exact (bn hg).1) (fun id id' g h1 h2=>h.binj id id' g (bn h1).2 (bn h2).2) (fun id g hg=>by
    obtain ⟨k1,k2⟩:=bn hg;rw [←T] at k1;obtain ⟨x,hxS,e⟩:=List.mem_map.1 k1;obtain ⟨cs,q1,_⟩:=hd2 x hxS;rw [e] at q1;obtain ⟨g',q2,q3,_⟩:=h.box id cs false q1;rw [k2] at q2;cases q2;exact E.ownGl q3) hat hrel
   obtain ⟨G',hG',hσ,hB⟩:=h.handed hS i R hx hh hb hdom hinj hat' C hkept;unfold Oper.wp;rw [hex _ _ hrun,hnx];cases hv:mo.val with
   |false=>
    rw [Oper.upon_skip];have hd:=hdv hv;rw [hd] at hk⊢;exact hk G' a w' hG'
   |true=>
    rw [Oper.upon_value];cases hd:o.dst with
    |none=>exact hk G' a w' (by rw [hd];exact hG')
    |some d=>
     refine hk G' (a.put (some d) v) w' ?_;rw [hd];refine hG'.put (hn d hd) (pK hσ hB ?_ hr);unfold okS at i;simp only [gA9] at i;exact i.2
  ·cases hs
 ·cases hs
theorem Gu (h:Conc E G fr st a w) {c:Call} {f:Operand} (ho:o.op= .call c) (hc:c.callee= .value f) (hi:a6 P mu gs o=some i) (j:ah P i rs fr st=some (fr',st',p)) (hp:p) (hn: ∀d,o.dst=some d→d<E.n) (hco: ∀d f args,i≠ .callo d f args) (hk:Then E fr' st' K):o.wp P a w K Q:=by
 unfold a6 at hi;rw [ho] at hi;simp only [hc] at hi;split at hi
 ·rename_i f' args hf C
  split at hi
  ·
   cases hi;simp only [ah] at j;split at j
   ·rename_i fid cap id esz n cap0 as rows rows' I J
    split at j
    ·rename_i bs cs d R hbx hd
     split at j
     ·rename_i hfd
      cases j;obtain ⟨hcs,hl,hn1,hro,hMR⟩:=hp;subst hn1;obtain ⟨us,T,U⟩:=bY (h.ev hf I).1;obtain ⟨x,xs,y,ys',t,ts',e1,e2,e3,e4,e5⟩:=pJ C J;exact IT h ho hc T U e1 (h.ev e2 e3) (dI h e4 e5 R) (aA hbx).1 (aA hbx).2 hcs hl hro hMR hd hfd hn hk
     ·cases j
    ·cases j
   ·rename_i fid cap e0 l0 as esz rows I J
    split at j
    ·rename_i bs d R hd
     split at j
     ·rename_i hfd
      cases j;obtain ⟨us,T,U⟩:=bY (h.ev hf I).1;obtain ⟨x,xs,y,ys',t,ts',e1,e2,e3,e4,e5⟩:=pJ C J;have hrel:=dI h e4 e5 R;obtain ⟨A,cp,_,_,_,hv,_,_,_,_,_,_,h8,_⟩:=cEz (h.ev e2 e3);obtain ⟨k1,k2,k3⟩:=h8 rfl;rw [k1,k2,k3] at hv;unfold Oper.wp;rw [dd ho hc hp.cb T,Oper.upon_enter,e1,List.map_cons,hv,List.cons_append];refine (hp.run G.σ w _ h.hold (hrel.append U) (E.gwb h.below)).mono fun e w' ⟨σ',g,cp,he,hx,hh,hb,hge,hr⟩=> ?_
      subst he;have h2:=h.world hb hx hh;obtain ⟨G',hG'⟩:=h2.anew (hn d hd) hfd (.inl (gB7 h.lt hge)) hr (fun id hid=>by have:=h.Blt id g hid;omega) (fun s r j e=>by have:=h.ρlt s r j;omega) (fun k x hk e=>by have:=((h.phi k x hk).1.2).lt;omega);rw [hd];exact hk _ _ _ hG'
     ·cases j
    ·cases j
   ·rename_i fid cap id esz n cap0 as rows r I J
    split at j
    ·rename_i bs cs R hbx hfl
     cases j;obtain ⟨hcs,hl,hn1,hro,hAC⟩:=hp;subst hn1;obtain ⟨us,T,U⟩:=bY (h.ev hf I).1;obtain ⟨x,xs,y,ys',t,ts',e1,e2,e3,e4,e5⟩:=pJ C J;exact IU h ho hc T U e1 (h.ev e2 e3) (dI h e4 e5 R) (aA hbx).1 (aA hbx).2 hcs hl hro hfl hAC hn hk
    ·cases j
   ·rename_i fid cap as r I J
    split at j
    ·rename_i bs R
     cases j;obtain ⟨us,T,U⟩:=bY (h.ev hf I).1;exact ti h ho hc T U (dI h C J R) hp hn hk
    ·cases j
   ·rename_i fid cap as esz rows I J
    split at j
    ·rename_i bs d R hd
     split at j
     ·rename_i hfd
      cases j;obtain ⟨us,T,U⟩:=bY (h.ev hf I).1;exact Eb h ho hc T U (dI h C J R) hp hd hfd hn hk
     ·cases j
    ·cases j
   ·cases j
  ·split at hi
   ·cases hi
    exact absurd rfl (hco _ _ _)
   split at hi
   ·
    cases hi;simp only [ah] at j;split at j
    ·rename_i fid cap as r I J
     split at j
     ·rename_i bs R
      cases j;obtain ⟨us,T,U⟩:=bY (h.ev hf I).1;exact ti h ho hc T U (dI h C J R) hp hn hk
     ·cases j
    ·rename_i fid cap as esz rows bs' I J
     split at j
     ·rename_i bs d R hd
      split at j
      ·rename_i hfd
       cases j;obtain ⟨us,T,U⟩:=bY (h.ev hf I).1;exact IS h ho hc T U (dI h C J R) hp hd hfd hn hk
      ·cases j
     ·cases j
    ·rename_i fid cap as ids S' r I J
     split at j
     ·rename_i bs S R hS
      cases j;obtain ⟨hp,hok⟩:=hp;rw [gA9] at hok;obtain ⟨us,T,U⟩:=bY (h.ev hf I).1;exact IV h ho hc T U C J R hS hok.1 hok.2 hp hn hk
     ·cases j
    ·cases j
   ·cases hi
    simp only [ah] at j;split at j
    ·rename_i fid cap as r I J
     split at j
     ·rename_i bs R
      cases j;obtain ⟨us,T,U⟩:=bY (h.ev hf I).1;exact ti h ho hc T U (dI h C J R) hp hn hk
     ·cases j
    ·rename_i fid cap as esz rows I J
     split at j
     ·rename_i bs d R hd
      split at j
      ·rename_i hfd
       cases j;obtain ⟨us,T,U⟩:=bY (h.ev hf I).1;exact Eb h ho hc T U (dI h C J R) hp hd hfd hn hk
      ·cases j
     ·cases j
    ·cases j
 ·cases hi
end
end
end Go.Proofs.YtbgflifmanjpjaaGreatDoor
