/- Part 7. -/
import Derived.Test.YtbgflifmanjpjaaGreatDoorS6
set_option linter.unusedSimpArgs false
set_option linter.unusedVariables false
namespace Go.Proofs.YtbgflifmanjpjaaGreatDoor
open Go.RowKit
inductive V where
 |mk (kind:Int) (b:Bool) (n:Int) (s:ByteArray) (l:List V) (m:List (ByteArray×V))
def V.kind:V→Int| .mk k _ _ _ _ _=>k
def V.b:V→Bool| .mk _ b _ _ _ _=>b
def V.n:V→Int| .mk _ _ n _ _ _=>n
def V.s:V→ByteArray| .mk _ _ _ s _ _=>s
def V.l:V→List V| .mk _ _ _ _ l _=>l
def V.m:V→List (ByteArray×V)| .mk _ _ _ _ _ m=>m
def mf:ByteArray:=⟨#[]⟩
def V.null:V:= .mk 0 false 0 mf [] []
theorem V.ext_iff' {a b:V}:a=b↔a.kind=b.kind∧a.b=b.b∧a.n=b.n∧a.s=b.s∧a.l=b.l∧a.m=b.m:=by
 cases a;cases b;simp [V.kind,V.b,V.n,V.s,V.l,V.m]
instance:Inhabited V:=⟨V.null⟩
section
variable {d d' :Nat} {w w' :World} {B B' :Nat} {cs:List Value} {v:V}
end
mutual
def V.size:V→Nat
 | .mk _ _ _ _ l m=>1+aK l+aw m
def aK:List V→Nat
 | []=>0
 |x::l=>x.size+aK l
def aw:List (ByteArray×V)→Nat
 | []=>0
 |(_,x)::m=>x.size+aw m
end
mutual
def V.depth:V→Nat
 | .mk _ _ _ _ l m=>max (bB l) (bJ m)+1
def bB:List V→Nat
 | []=>0
 |x::l=>max x.depth (bB l)
def bJ:List (ByteArray×V)→Nat
 | []=>0
 |(_,x)::m=>max x.depth (bJ m)
end
theorem V.size_eq (v:V):v.size=1+aK v.l+aw v.m:=by cases v;simp [V.size,V.l,V.m]
theorem V.depth_eq (v:V):v.depth=max (bB v.l) (bJ v.m)+1:=by cases v;simp [V.depth,V.l,V.m]
theorem cw (a b:List V):aK (a++b)=aK a+aK b:=by
 induction a with
 |nil=>simp [aK]
 |cons x a ih=>(simp [aK,ih]<;>omega)
theorem oI (a b:List (ByteArray×V)):aw (a++b)=aw a+aw b:=by
 induction a with
 |nil=>simp [aw]
 |cons x a ih=>obtain ⟨k,x⟩:=x;(simp [aw,ih]<;>omega)
theorem mX (a b:List V):bB (a++b)=max (bB a) (bB b):=by
 induction a with
 |nil=>simp [bB]
 |cons x a ih=>(simp [bB,ih]<;>omega)
theorem mY (a b:List (ByteArray×V)):bJ (a++b)=max (bJ a) (bJ b):=by
 induction a with
 |nil=>simp [bJ]
 |cons x a ih=>obtain ⟨k,x⟩:=x;(simp [bJ,ih]<;>omega)
theorem d9 {α:Type} {l:List α} {k:Nat} {x:α} (h:l[k]? =some x):l.take (k+1)=l.take k++ [x]:=by rw [List.take_add_one,h];rfl
theorem cT {l:List V} {k:Nat} {x:V} (h:l[k]? =some x):aK (l.take (k+1))=aK (l.take k)+x.size:=by rw [d9 h,cw];simp [aK]
theorem cU {l:List (ByteArray×V)} {k:Nat} {y:ByteArray} {x:V} (h:l[k]? =some (y,x)):aw (l.take (k+1))=aw (l.take k)+x.size:=by rw [d9 h,oI];simp [aw]
theorem rv {l:List V} {k:Nat} {x:V} (h:l[k]? =some x):bB (l.take (k+1))=max (bB (l.take k)) x.depth:=by rw [d9 h,mX];simp [bB]
theorem rz {l:List (ByteArray×V)} {k:Nat} {y:ByteArray} {x:V} (h:l[k]? =some (y,x)):bJ (l.take (k+1))=max (bJ (l.take k)) x.depth:=by rw [d9 h,mY];simp [bJ]
theorem bR (l:List V) (k:Nat):aK (l.take k)≤aK l:=by
 have:=cw (l.take k) (l.drop k);rw [List.take_append_drop] at this;omega
theorem bu (l:List (ByteArray×V)) (k:Nat):aw (l.take k)≤aw l:=by
 have:=oI (l.take k) (l.drop k);rw [List.take_append_drop] at this;omega
theorem lD (l:List V) (k:Nat):bB (l.take k)≤bB l:=by
 have:=mX (l.take k) (l.drop k);rw [List.take_append_drop] at this;omega
theorem lE (l:List (ByteArray×V)) (k:Nat):bJ (l.take k)≤bJ l:=by
 have:=mY (l.take k) (l.drop k);rw [List.take_append_drop] at this;omega
theorem V.size_pos (v:V):1≤v.size:=by rw [V.size_eq];omega
theorem bk (l:List V):l.length≤aK l:=by
 induction l with
 |nil=>simp
 |cons x l ih=>have:=x.size_pos;simp [aK];omega
theorem aU (l:List (ByteArray×V)):l.length≤aw l:=by
 induction l with
 |nil=>simp
 |cons x l ih=>obtain ⟨k,x⟩:=x;have:=x.size_pos;simp [aw];omega
def oK (p:UInt8→Bool) (s:ByteArray) (k:Nat):Prop:= ∀j (h:j<s.size),j<k→p s[j]=true
def wg (p:UInt8→Bool) (s:ByteArray):Bool:=s.data.toList.all p
theorem gi (p:UInt8→Bool) (s:ByteArray):oK p s 0:=fun j _ h=>by omega
theorem gj {p:UInt8→Bool} {s:ByteArray} {k:Nat} (h:oK p s k) (I:k<s.size) (i:p s[k]=true):oK p s (k+1):=by
 intro j r C;rcases Nat.lt_or_ge j k with g|g
 ·exact h j r g
 ·obtain rfl:j=k:=by omega
  exact i
theorem i7 {p:UInt8→Bool} {s:ByteArray} (h:oK p s s.size):wg p s=true:=by
 unfold wg;rw [List.all_eq_true];intro x i;obtain ⟨j,r,rfl⟩:=List.getElem_of_mem i;have g:j<s.size:=by simpa using r
 exact h j g g
theorem gk {p:UInt8→Bool} {s:ByteArray} {k:Nat} (g:k<s.size) (i:p s[k]=false):wg p s=false:=by
 unfold wg;rw [List.all_eq_false];exact ⟨s[k],List.getElem_mem (l:=s.data.toList) (n:=k) (by simpa using g),by rw [i];decide⟩
def okT (c:UInt8):Bool:=(decide (32≤c.toNat)&&decide (c.toNat≤126))||c.toNat==9||c.toNat==10
def dt (s:ByteArray):Bool:=wg okT s&&decide (s.size≤65536)
def okK (c:UInt8):Bool:=decide (32≤c.toNat)&&decide (c.toNat≤126)
def pV (s:ByteArray):Bool:=wg okK s&&(decide (1≤s.size)&&decide (s.size≤256))
mutual
def V.w:V→Nat
 | .mk _ _ _ s l m=>1+s.size+wL l+wM m
def wL:List V→Nat
 | []=>0
 |x::l=>x.w+wL l
def wM:List (ByteArray×V)→Nat
 | []=>0
 |(y,x)::m=>x.w+y.size+wM m
end
mutual
def V.wt:V→Nat→Nat
 | .mk _ _ _ s l m,deep=>if 40<deep then 1048576 else if (wtL l (deep+1) (1+s.size)).2 then (wtL l (deep+1) (1+s.size)).1 else (wtM m (deep+1) (wtL l (deep+1) (1+s.size)).1).1
def wtL:List V→Nat→Nat→Nat×Bool
 | [],_,n=>(n,false)
 |x::l,deep,n=>if 6000<n+x.wt deep then (n+x.wt deep,true) else wtL l deep (n+x.wt deep)
def wtM:List (ByteArray×V)→Nat→Nat→Nat×Bool
 | [],_,n=>(n,false)
 |(y,x)::m,deep,n=>if 6000<n+(x.wt deep+y.size) then (n+(x.wt deep+y.size),true) else wtM m deep (n+(x.wt deep+y.size))
end
theorem V.w_eq (v:V):v.w=1+v.s.size+wL v.l+wM v.m:=by cases v;simp [V.w,V.l,V.m,V.s]
theorem V.wt_eq (v:V) (deep:Nat):v.wt deep=if 40<deep then 1048576 else if (wtL v.l (deep+1) (1+v.s.size)).2 then (wtL v.l (deep+1) (1+v.s.size)).1 else (wtM v.m (deep+1) (wtL v.l (deep+1) (1+v.s.size)).1).1:=by
 cases v;rw [V.wt];rfl
theorem pW (deep:Nat): ∀(l:List V) (n:Nat),(∀x∈l,x.wt deep≤6000→x.wt deep=x.w∧x.depth+deep≤41)→(wtL l deep n).1≤6000→(wtL l deep n)=(n+wL l,false)∧(l= []∨bB l+deep≤41)
 | [],n,_,h=>⟨rfl,.inl rfl⟩
 |x::l,n,g,h=>by
  rw [wtL] at h⊢;split at h
  ·simp at h;omega
  ·rename_i hn
   rw [if_neg hn];have j:=g x (by simp) (by omega);obtain ⟨p,i⟩:=pW deep l _ (fun y hy=>g y (by simp [hy])) h;refine ⟨by rw [p,j.1,wL];simp;omega,.inr ?_⟩;rw [bB];rcases i with rfl|i
   ·simp [bB];omega
   ·omega
theorem xG (deep:Nat): ∀(l:List (ByteArray×V)) (n:Nat),(∀p∈l,p.2.wt deep≤6000→p.2.wt deep=p.2.w∧p.2.depth+deep≤41)→(wtM l deep n).1≤6000→(wtM l deep n)=(n+wM l,false)∧(l= []∨bJ l+deep≤41)
 | [],n,_,h=>⟨rfl,.inl rfl⟩
 |(y,x)::l,n,g,h=>by
  rw [wtM] at h⊢;split at h
  ·simp at h;omega
  ·rename_i hn
   rw [if_neg hn];have i:=g (y,x) (by simp) (by simp;omega);obtain ⟨r,j⟩:=xG deep l _ (fun y hy=>g y (by simp [hy])) h;simp only at i;refine ⟨by rw [r,i.1,wM];simp;omega,.inr ?_⟩;rw [bJ];rcases j with rfl|j
   ·simp [bJ];omega
   ·omega
theorem mem_size {l:List V} {x:V} (h:x∈l):x.size≤aK l:=by
 induction l with
 |nil=>cases h
 |cons a l ih=>
  simp only [aK];rcases gB2 h with rfl|h
  ·omega
  ·have:=ih h;omega
theorem cm {l:List (ByteArray×V)} {p:ByteArray×V} (h:p∈l):p.2.size≤aw l:=by
 induction l with
 |nil=>cases h
 |cons a l ih=>
  obtain ⟨k,a⟩:=a;simp only [aw];rcases gB2 h with rfl|h
  ·simp
  ·have:=ih h;omega
theorem yQ (n:Nat): ∀(v:V) (deep:Nat),v.size≤n→v.wt deep≤6000→v.wt deep=v.w∧v.depth+deep≤41:=by
 induction n with
 |zero=>intro v deep h;have:=v.size_pos;omega
 |succ n ih=>
  intro v deep hs h;have e1:=v.size_eq;rw [V.wt_eq] at h⊢;split at h
  ·omega
  ·rename_i hd
   rw [if_neg hd];have C: ∀x∈v.l,x.wt (deep+1)≤6000→x.wt (deep+1)=x.w∧x.depth+(deep+1)≤41:=fun x P=>ih x (deep+1) (by have:=mem_size P;omega)
   have R: ∀p∈v.m,p.2.wt (deep+1)≤6000→p.2.wt (deep+1)=p.2.w∧p.2.depth+(deep+1)≤41:=fun p T=>ih p.2 (deep+1) (by have:=cm T;omega)
   have I:(wtL v.l (deep+1) (1+v.s.size)).1≤6000∧(wtL v.l (deep+1) (1+v.s.size)).2=false:=by
    split at h
    ·rename_i g
     have:=(pW _ _ _ C h).1;rw [this] at g;cases g
    ·rename_i g
     refine ⟨?_,by simpa using g⟩
     have mono: ∀(l:List (ByteArray×V)) (n:Nat),n≤(wtM l (deep+1) n).1:=by
      intro l
      induction l with
      |nil=>intro n;simp [wtM]
      |cons p l r=>
       intro n;obtain ⟨y,x⟩:=p;rw [wtM];split
       ·simp only [];omega
       ·have:=r (n+(x.wt (deep+1)+y.size));omega
     have:=mono v.m (wtL v.l (deep+1) (1+v.s.size)).1;omega
   obtain ⟨g,i⟩:=pW _ _ _ C I.1;rw [if_neg (by rw [I.2];decide)] at h⊢;obtain ⟨J,j⟩:=xG _ _ _ R h;rw [g] at J⊢;rw [J,V.w_eq,V.depth_eq];refine ⟨rfl,?_⟩;have U:v.l= []→bB v.l=0:=fun e=>by rw [e];rfl
   have e4:v.m= []→bJ v.m=0:=fun e=>by rw [e];rfl
   rcases i with i|i<;>rcases j with j|j<;>(first|have:=U i|skip)<;>(first|have:=e4 j|skip)<;>omega
theorem V.light {v:V} {deep:Nat} (h:v.wt deep≤6000):v.wt deep=v.w∧v.depth+deep≤41:=yQ v.size v deep (gA4 _) h
theorem GP (deep b:Nat): ∀(l:List V) (n:Nat),(∀x∈l,x.wt deep≤b)→(wtL l deep n).1≤max n 6000+b∧((wtL l deep n).2=false→(wtL l deep n).1≤max n 6000)
 | [],n,_=>⟨by simp [wtL];omega,fun _=>by simp [wtL];omega⟩
 |x::l,n,g=>by
  have j:=g x (by simp);rw [wtL];split
  ·exact ⟨by simp;omega,fun h=>by cases h⟩
  ·obtain ⟨p,i⟩:=GP deep b l (n+x.wt deep) (fun y hy=>g y (by simp [hy]))
   exact ⟨by omega,fun h=>by have:=i h;omega⟩
theorem GQ (deep b c:Nat): ∀(l:List (ByteArray×V)) (n:Nat),(∀p∈l,p.2.wt deep≤b∧p.1.size≤c)→(wtM l deep n).1≤max n 6000+b+c
 | [],n,_=>by simp [wtM];omega
 |(y,x)::l,n,g=>by
  have i:=g (y,x) (by simp);simp only at i;rw [wtM];split
  ·simp;omega
  ·have:=GQ deep b c l (n+(x.wt deep+y.size)) (fun p j=>g p (by simp [j]))
   omega
def V.light_ (v:V):Bool:=decide (v.wt 0≤6000)
theorem V.light_iff {v:V} (h:v.light_=true):v.w≤6000∧v.depth≤41:=by
 have g:v.wt 0≤6000:=by simpa [V.light_] using h
 have i:=V.light g;exact ⟨by omega,by omega⟩
def lF (kind:Int) (b:Bool) (n:Int) (s:ByteArray) (l m:Nat):Bool:=
 decide (kind<0)||decide (5<kind)||(decide (kind≠1)&&b)||(decide (kind≠2)&&decide (n≠0))||(decide (kind≠3)&&decide (s≠mf))||(decide (kind≠4)&&decide (0<l))||(decide (kind≠5)&&decide (0<m))
def oL:List (ByteArray×V)→Prop
 | []=>True
 | [_]=>True
 |p::q::m=>Op.bytesLess p.1.toList q.1.toList=true∧oL (q::m)
mutual
def V.good:V→Prop
 | .mk k b n s l m=>lF k b n s l.length m.length=false∧dt s=true∧Ef l∧ul m∧oL m
def Ef:List V→Prop
 | []=>True
 |x::l=>x.good∧Ef l
def ul:List (ByteArray×V)→Prop
 | []=>True
 |(y,x)::m=>pV y=true∧x.good∧ul m
end
theorem xH (m:List (ByteArray×V)):ul m↔ ∀p∈m,pV p.1=true∧p.2.good:=by
 induction m with
 |nil=>simp [ul]
 |cons p m ih=>obtain ⟨y,x⟩:=p;rw [ul,ih,List.forall_mem_cons];simp only [and_assoc]
theorem V.good_eq (v:V):v.good↔lF v.kind v.b v.n v.s v.l.length v.m.length=false∧dt v.s=true∧Ef v.l∧ul v.m∧oL v.m:=by
 cases v;rw [V.good];rfl
theorem pX: ∀{a b:List UInt8},Op.bytesLess a b=false→(a==b)=false→Op.bytesLess b a=true
 | [],[],_,h=>by simp at h
 | [],_::_,h,_=>by simp [Op.bytesLess] at h
 |_::_,[],_,_=>by simp [Op.bytesLess]
 |x::a,y::b,h,g=>by
  simp only [Op.bytesLess,Bool.or_eq_false_iff,decide_eq_false_iff_not,Bool.and_eq_false_iff,beq_eq_false_iff_ne,UInt8.not_lt] at h;simp only [Op.bytesLess,Bool.or_eq_true,gB0,gA9,beq_iff_eq];by_cases e:x=y
  ·subst e
   exact .inr ⟨rfl,pX (by simpa using h.2) (by simpa using g)⟩
  ·exact .inl (UInt8.lt_of_le_of_ne h.1 fun i=>e i.symm)
theorem wh (n:Nat):(∀v:V,v.size≤n→v.size≤v.w)∧(∀l:List V,aK l≤n→aK l≤wL l)∧ ∀m:List (ByteArray×V),aw m≤n→aw m≤wM m:=by
 induction n with
 |zero=>
  refine ⟨fun v h=> ?_,fun l h=>by omega,fun m h=>by omega⟩;have:=v.size_pos;omega
 |succ n ih=>
  have i: ∀v:V,v.size≤n+1→v.size≤v.w:=by
   intro v h;have j:=v.size_eq;have p:=v.w_eq;have r:=ih.2.1 v.l (by omega);have C:=ih.2.2 v.m (by omega);omega
  refine ⟨i,fun l h=> ?_,fun m h=> ?_⟩
  ·induction l with
   |nil=>simp [aK]
   |cons x l g=>
    simp only [aK,wL] at h⊢;have:=i x (by omega);have:=g (by omega);omega
  ·induction m with
   |nil=>simp [aw]
   |cons x m g=>
    obtain ⟨k,x⟩:=x;simp only [aw,wM] at h⊢;have:=i x (by omega);have:=g (by omega);omega
theorem V.size_le_w (v:V):v.size≤v.w:=(wh v.size).1 v (gA4 _)
theorem V.light_size {v:V} (h:v.light_=true):v.size≤6000:=gB7 v.size_le_w (V.light_iff h).1
def bf (k:ByteArray):List (ByteArray×V)→Option V
 | []=>none
 |(y,x)::m=>if y=k then some x else bf k m
theorem AB {k:ByteArray}: ∀{m:List (ByteArray×V)} {i:Nat} {x:V},(∀j p,j<i→m[j]? =some p→p.1≠k)→m[i]? =some (k,x)→bf k m=some x
 | [],_,_,_,h=>by simp at h
 |(y,v)::m,0,x,_,h=>by
  simp at h;obtain ⟨rfl,rfl⟩:=h;rw [bf,if_pos rfl]
 |(y,v)::m,i+1,x,hn,h=>by
  rw [bf,if_neg (hn 0 (y,v) (by omega) rfl)];exact AB (i:=i) (fun j p r g=>hn (j+1) p (by omega) (by simpa using g)) (by simpa using h)
theorem um {k:ByteArray}: ∀{m:List (ByteArray×V)},(∀j p,j<m.length→m[j]? =some p→p.1≠k)→bf k m=none
 | [],_=>rfl
 |(y,v)::m,hn=>by
  rw [bf,if_neg (hn 0 (y,v) (by simp) rfl)];exact um fun j p i g=>hn (j+1) p (by simp;omega) (by simpa using g)
theorem I5 {m:List (ByteArray×V)} {k:Nat} {q:ByteArray×V} {key:ByteArray} (h: ∀j p,j<k→m[j]? =some p→p.1≠key) (hg:m[k]? =some q) (i:q.1≠key): ∀j p,j<k+1→m[j]? =some p→p.1≠key:=by
 intro j y r hy;rcases Nat.lt_or_ge j k with g|g
 ·exact h j y g hy
 ·obtain rfl:j=k:=by omega
  rw [hg] at hy;cases hy;exact i
theorem xI: ∀a:List UInt8,Op.bytesLess a a=false
 | []=>rfl
 |x::a=>by simp [Op.bytesLess,xI a,UInt8.lt_irrefl]
theorem uo: ∀{a b c:List UInt8},Op.bytesLess a b=true→Op.bytesLess b c=true→Op.bytesLess a c=true
 | [],_,[],_,g=>by cases ‹List UInt8› <;>simp [Op.bytesLess] at g
 | [],_,_::_,_,_=>rfl
 |_::_,[],_,h,_=>by simp [Op.bytesLess] at h
 |_::_,_::_,[],_,h=>by simp [Op.bytesLess] at h
 |x::a,y::b,z::c,h,k=>by
  simp only [Op.bytesLess,Bool.or_eq_true,gB0,gA9,beq_iff_eq] at h k⊢;rcases h with h|⟨rfl,h⟩
  ·rcases k with k|⟨rfl,k⟩
   ·exact .inl (UInt8.lt_trans h k)
   ·exact .inl h
  ·rcases k with k|⟨rfl,k⟩
   ·exact .inl k
   ·exact .inr ⟨rfl,uo h k⟩
def klt (a b:ByteArray):Prop:=Op.bytesLess a.toList b.toList=true
theorem CQ {a b:ByteArray} (h:klt a b):a≠b:=by
 rintro rfl;unfold klt at h;rw [xI] at h;cases h
theorem xJ: ∀{m:List (ByteArray×V)},oL m→m.Pairwise (fun p q=>klt p.1 q.1)
 | [],_=>List.Pairwise.nil
 | [_],_=>List.pairwise_singleton _ _
 |p::q::m,h=>by
  have ih:=xJ h.2;refine List.pairwise_cons.2 ⟨fun r hr=> ?_,ih⟩;rcases gB2 hr with rfl|hr
  ·exact h.1
  ·exact uo h.1 ((List.pairwise_cons.1 ih).1 r hr)
theorem jG: ∀{m:List (ByteArray×V)} {y:ByteArray} {x:V},bf y m=some x→(y,x)∈m
 |(a,v)::m,y,x,h=>by
  rw [bf] at h;split at h
  ·rename_i e;cases e;cases h;simp
  ·exact List.mem_cons_of_mem _ (jG h)
theorem V.mem_size {v:V} {p:ByteArray×V} (h:p∈v.m):p.2.size<v.size:=by
 have:=cm h;have:=v.size_eq;omega
theorem KP {v:V} (h:v.good) {p:ByteArray×V} (g:p∈v.m):p.2.good:=((xH _).1 (v.good_eq.1 h).2.2.2.1 p g).2
theorem CR {v:V} (h:v.good):v.m.Pairwise (fun p q=>klt p.1 q.1):=xJ (v.good_eq.1 h).2.2.2.2
theorem E3 {v:V} (h:v.good) (g:v.m≠ []):v.kind=5:=by
 have i:=(v.good_eq.1 h).1;have j:0<v.m.length:=List.length_pos_iff.2 g;simp [lF,j] at i;omega
abbrev Path:=List ByteArray
def V.get:Path→V→Option V
 | [],v=>some v
 |s::l,v=>match bf s v.m with
  |none=>none
  |some x=>V.get l x
open Classical in
noncomputable def V.sameB (a b:V):Bool:=decide (a=b)
theorem V.sameB_true {a b:V}:a.sameB b=true↔a=b:=by simp [V.sameB]
theorem V.sameB_false {a b:V}:a.sameB b=false↔a≠b:=by simp [V.sameB]
mutual
def V.sb:V→Prop
 | .mk _ _ _ s l m=>s.size≤140737488355328∧(l.length≤2000000000000∧m.length≤2000000000000)∧sbL l∧sbM m
def sbL:List V→Prop
 | []=>True
 |x::l=>x.sb∧sbL l
def sbM:List (ByteArray×V)→Prop
 | []=>True
 |(y,x)::m=>y.size≤140737488355328∧x.sb∧sbM m
end
theorem it (l:List V):sbL l↔ ∀x∈l,x.sb:=by
 induction l with
 |nil=>simp [sbL]
 |cons x l ih=>simp [sbL,ih]
theorem fG (m:List (ByteArray×V)):sbM m↔ ∀p∈m,p.1.size≤140737488355328∧p.2.sb:=by
 induction m with
 |nil=>simp [sbM]
 |cons p m ih=>obtain ⟨y,x⟩:=p;rw [sbM,ih,List.forall_mem_cons];simp only [and_assoc]
theorem V.sb_eq (v:V):v.sb↔v.s.size≤140737488355328∧(v.l.length≤2000000000000∧v.m.length≤2000000000000)∧sbL v.l∧sbM v.m:=by cases v;rw [V.sb];rfl
theorem I6 {v:V} (h:v.sb) {k:Nat} {x:V} (g:v.l[k]? =some x):x.sb:=(it _).1 ((V.sb_eq v).1 h).2.2.1 x (gA2 g)
theorem CT {v:V} (h:v.sb) {k:Nat} {y:ByteArray} {x:V} (g:v.m[k]? =some (y,x)):y.size≤140737488355328∧x.sb:=(fG _).1 ((V.sb_eq v).1 h).2.2.2 (y,x) (gA2 g)
theorem KQ {v:V} (h:v.sb):v.l.length≤2000000000000∧v.m.length≤2000000000000:=((V.sb_eq v).1 h).2.1
theorem I7 {v:V} (h:v.sb):v.s.size≤140737488355328:=((V.sb_eq v).1 h).1
theorem E4 (n:Nat): ∀(v:V) (k deep:Nat),v.size≤n→v.sb→deep+k=41→v.wt deep≤1048576+k*562949953421312:=by
 induction n with
 |zero=>intro v _ _ h;have:=v.size_pos;omega
 |succ n ih=>
  intro v k deep hn g R;have T:=I7 g;have e:=v.size_eq;rw [V.wt_eq];split
  ·omega
  ·rename_i hd
   obtain ⟨k,rfl⟩: ∃j,k=j+1:=⟨k-1,by omega⟩
   have C: ∀x∈v.l,x.wt (deep+1)≤1048576+k*562949953421312:=fun x r=>
    ih x k _ (by have:=mem_size r;omega) ((it _).1 ((V.sb_eq v).1 g).2.2.1 x r) (by omega)
   have I: ∀p∈v.m,p.2.wt (deep+1)≤1048576+k*562949953421312∧p.1.size≤140737488355328:=fun p i=>
    ⟨ih p.2 k _ (by have:=cm i;omega) ((fG _).1 ((V.sb_eq v).1 g).2.2.2 p i).2 (by omega),((fG _).1 ((V.sb_eq v).1 g).2.2.2 p i).1⟩
   obtain ⟨U,J⟩:=GP (deep+1) _ v.l (1+v.s.size) C;split
   ·omega
   ·rename_i P
    have h7:=J (by simpa using P);have h8:=GQ (deep+1) _ _ v.m (wtL v.l (deep+1) (1+v.s.size)).1 I;omega
theorem V.wt_sb {v:V} (h:v.sb) {deep:Nat} (hd:deep≤41):v.wt deep≤23080948091322368:=by
 obtain ⟨k,g⟩: ∃k,deep+k=41:=⟨41-deep,by omega⟩
 have i:=E4 v.size v k deep (gA4 _) h g;have j:k≤41:=by omega
 omega
theorem oM (n:Nat): ∀v:V,v.size≤n→v.depth≤v.size:=by
 induction n with
 |zero=>intro v h;have:=v.size_pos;omega
 |succ n ih=>
  intro v hn;have p:=v.size_eq
  have i: ∀l:List V,aK l≤n→bB l≤aK l:=by
   intro l
   induction l with
   |nil=>intro _;simp [bB]
   |cons x l g=>intro h;simp only [aK,bB] at h⊢;have:=ih x (by omega);have:=g (by omega);omega
  have j: ∀l:List (ByteArray×V),aw l≤n→bJ l≤aw l:=by
   intro l
   induction l with
   |nil=>intro _;simp [bJ]
   |cons x l g=>obtain ⟨y,x⟩:=x;intro h;simp only [aw,bJ] at h⊢;have:=ih x (by omega);have:=g (by omega);omega
  have:=i v.l (by omega);have:=j v.m (by omega);rw [V.depth_eq];omega
theorem V.depth_le_size' (v:V):v.depth≤v.size:=oM v.size v (gA4 _)
theorem dJ {α:Type} {l:List α} {k:Nat} {x:α} (h:l[k]? =some x):l.drop k=x::l.drop (k+1):=by
 obtain ⟨g,rfl⟩:=gA0 h;exact List.drop_eq_getElem_cons g
def jH:Option ByteArray→ByteArray→Bool
 |none,_=>false
 |some z,y=> !Op.bytesLess z.toList y.toList
mutual
def V.partsC:V→Int
 | .mk k b n s l m=>if lF k b n s l.length m.length then 8 else if dt s=false then 10 else if cx l≠0 then cx l else gn none m
def cx:List V→Int
 | []=>0
 |x::l=>if x.partsC≠0 then x.partsC else cx l
def gn:Option ByteArray→List (ByteArray×V)→Int
 |_,[]=>0
 |p,(y,x)::m=>if pV y=false then 7 else if jH p y=true then 13 else if x.partsC≠0 then x.partsC else gn (some y) m
end
theorem V.partsC_eq (v:V):v.partsC=if lF v.kind v.b v.n v.s v.l.length v.m.length then 8 else if dt v.s=false then 10 else if cx v.l≠0 then cx v.l else gn none v.m:=by
 cases v;rw [V.partsC];rfl
theorem rA {l:List V} {k:Nat} {x:V} (h:l[k]? =some x):cx (l.drop k)=if x.partsC≠0 then x.partsC else cx (l.drop (k+1)):=by
 rw [dJ h,cx]
def kw (m:List (ByteArray×V)):Nat→Option ByteArray
 |0=>none
 |k+1=>m[k]?.map (·.1)
theorem rB {m:List (ByteArray×V)} {k:Nat} {y:ByteArray} {x:V} (h:m[k]? =some (y,x)):gn (kw m k) (m.drop k)=
  if pV y=false then 7 else if jH (kw m k) y=true then 13 else if x.partsC≠0 then x.partsC else gn (kw m (k+1)) (m.drop (k+1)):=by
 rw [dJ h,gn,kw,h];rfl
theorem uq (n:Nat): ∀v:V,v.size≤n→v.partsC=0→v.good:=by
 induction n with
 |zero=>intro v h;have:=v.size_pos;omega
 |succ n ih=>
  intro v hn h;have e:=v.size_eq;rw [V.partsC_eq] at h;rw [V.good_eq];split at h
  ·cases h
  rename_i J;split at h
  ·cases h
  rename_i P
  have R: ∀l:List V,aK l≤n→cx l=0→Ef l:=by
   intro l
   induction l with
   |nil=>intro _ _;trivial
   |cons x l i=>
    intro j hl;simp only [aK] at j;rw [cx] at hl;split at hl
    ·contradiction
    ·rename_i g
     exact ⟨ih x (by omega) (by simpa using g),i (by omega) hl⟩
  have T: ∀(m:List (ByteArray×V)) (p:Option ByteArray),aw m≤n→gn p m=0→ul m∧oL m∧ ∀z,p=some z→ ∀q,m.head? =some q→Op.bytesLess z.toList q.1.toList=true:=by
   intro m
   induction m with
   |nil=>intro p _ _;exact ⟨trivial,trivial,by simp⟩
   |cons q m r=>
    obtain ⟨y,x⟩:=q;intro p j hl;simp only [aw] at j;rw [gn] at hl;split at hl
    ·cases hl
    rename_i g;split at hl
    ·cases hl
    rename_i U;split at hl
    ·contradiction
    rename_i h5;obtain ⟨C,i2,i3⟩:=r (some y) (by omega) hl;refine ⟨⟨by simpa using g,ih x (by omega) (by simpa using h5),C⟩,?_,?_⟩
    ·cases m with
     |nil=>trivial
     |cons q m=>exact ⟨i3 y rfl q rfl,i2⟩
    ·rintro z rfl q I
     simp at I;subst I;simpa [jH] using U
  split at h
  ·contradiction
  rename_i g;obtain ⟨C,i2,_⟩:=T v.m none (by omega) h;exact ⟨by simpa using J,by simpa using P,R v.l (by omega) (by simpa using g),C,i2⟩
theorem V.parts_good {v:V} (h:v.partsC=0):v.good:=uq v.size v (gA4 _) h
def V.checkC (v:V):Int:=if 16<v.depth then 5 else if 4096<v.size then 6 else v.partsC
theorem V.check_good {v:V} (h:v.checkC=0):v.good∧v.size≤4096∧v.depth≤16:=by
 unfold V.checkC at h;split at h
 ·cases h
 split at h
 ·cases h
 exact ⟨V.parts_good h,by omega,by omega⟩
def iF (l:List V):Bool:=l.all fun x=>x.light_&&decide (x.checkC=0)
end Go.Proofs.YtbgflifmanjpjaaGreatDoor
