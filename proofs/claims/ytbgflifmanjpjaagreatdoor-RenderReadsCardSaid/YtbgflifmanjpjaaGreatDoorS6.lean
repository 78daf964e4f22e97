/- Part 6. -/
import Derived.Test.YtbgflifmanjpjaaGreatDoorS5
set_option linter.unusedSimpArgs false
set_option linter.unusedVariables false
namespace Go.Proofs.YtbgflifmanjpjaaGreatDoor
open Go.RowKit
inductive V where
 |mk (kind:Int) (b:Bool) (n:Int) (s:ByteArray) (l:List V) (m:List (ByteArray×V))
def V.kind:V→Int| .mk k _ _ _ _ _=>k
def V.b:V→Bool| .mk _ b _ _ _ _=>b
def V.n:V→Int| .mk _ _ n _ _ _=>n
def V.s:V→ByteArray| .mk _ _ _ s _ _=>s
def V.l:V→List V| .mk _ _ _ _ l _=>l
def V.m:V→List (ByteArray×V)| .mk _ _ _ _ _ m=>m
def mz:ByteArray:=⟨#[]⟩
def V.null:V:= .mk 0 false 0 mz [] []
theorem V.ext_iff' {a b:V}:a=b↔a.kind=b.kind∧a.b=b.b∧a.n=b.n∧a.s=b.s∧a.l=b.l∧a.m=b.m:=by
 cases a;cases b;simp [V.kind,V.b,V.n,V.s,V.l,V.m]
instance:Inhabited V:=⟨V.null⟩
section
variable {d d' :Nat} {w w' :World} {B B' :Nat} {cs:List Value} {v:V}
end
mutual
def V.size:V→Nat
 | .mk _ _ _ _ l m=>1+aK l+aA m
def aK:List V→Nat
 | []=>0
 |x::l=>x.size+aK l
def aA:List (ByteArray×V)→Nat
 | []=>0
 |(_,x)::m=>x.size+aA m
end
mutual
def V.depth:V→Nat
 | .mk _ _ _ _ l m=>max (bU l) (b7 m)+1
def bU:List V→Nat
 | []=>0
 |x::l=>max x.depth (bU l)
def b7:List (ByteArray×V)→Nat
 | []=>0
 |(_,x)::m=>max x.depth (b7 m)
end
theorem V.size_eq (v:V):v.size=1+aK v.l+aA v.m:=by cases v;simp [V.size,V.l,V.m]
theorem V.depth_eq (v:V):v.depth=max (bU v.l) (b7 v.m)+1:=by cases v;simp [V.depth,V.l,V.m]
theorem cG (a b:List V):aK (a++b)=aK a+aK b:=by
 induction a with
 |nil=>simp [aK]
 |cons x a ih=>(simp [aK,ih]<;>omega)
theorem py (a b:List (ByteArray×V)):aA (a++b)=aA a+aA b:=by
 induction a with
 |nil=>simp [aA]
 |cons x a ih=>obtain ⟨k,x⟩:=x;(simp [aA,ih]<;>omega)
theorem nN (a b:List V):bU (a++b)=max (bU a) (bU b):=by
 induction a with
 |nil=>simp [bU]
 |cons x a ih=>(simp [bU,ih]<;>omega)
theorem nO (a b:List (ByteArray×V)):b7 (a++b)=max (b7 a) (b7 b):=by
 induction a with
 |nil=>simp [b7]
 |cons x a ih=>obtain ⟨k,x⟩:=x;(simp [b7,ih]<;>omega)
theorem e9 {α:Type} {l:List α} {k:Nat} {x:α} (h:l[k]? =some x):l.take (k+1)=l.take k++ [x]:=by rw [List.take_add_one,h];rfl
theorem ed {l:List V} {k:Nat} {x:V} (h:l[k]? =some x):aK (l.take (k+1))=aK (l.take k)+x.size:=by rw [e9 h,cG];simp [aK]
theorem ee {l:List (ByteArray×V)} {k:Nat} {y:ByteArray} {x:V} (h:l[k]? =some (y,x)):aA (l.take (k+1))=aA (l.take k)+x.size:=by rw [e9 h,py];simp [aA]
theorem so {l:List V} {k:Nat} {x:V} (h:l[k]? =some x):bU (l.take (k+1))=max (bU (l.take k)) x.depth:=by rw [e9 h,nN];simp [bU]
theorem sq {l:List (ByteArray×V)} {k:Nat} {y:ByteArray} {x:V} (h:l[k]? =some (y,x)):b7 (l.take (k+1))=max (b7 (l.take k)) x.depth:=by rw [e9 h,nO];simp [b7]
theorem cn (l:List V) (k:Nat):aK (l.take k)≤aK l:=by
 have:=cG (l.take k) (l.drop k);rw [List.take_append_drop] at this;omega
theorem bV (l:List (ByteArray×V)) (k:Nat):aA (l.take k)≤aA l:=by
 have:=py (l.take k) (l.drop k);rw [List.take_append_drop] at this;omega
theorem lJ (l:List V) (k:Nat):bU (l.take k)≤bU l:=by
 have:=nN (l.take k) (l.drop k);rw [List.take_append_drop] at this;omega
theorem lK (l:List (ByteArray×V)) (k:Nat):b7 (l.take k)≤b7 l:=by
 have:=nO (l.take k) (l.drop k);rw [List.take_append_drop] at this;omega
theorem V.size_pos (v:V):1≤v.size:=by rw [V.size_eq];omega
theorem br (l:List V):l.length≤aK l:=by
 induction l with
 |nil=>simp
 |cons x l ih=>have:=x.size_pos;simp [aK];omega
theorem aZ (l:List (ByteArray×V)):l.length≤aA l:=by
 induction l with
 |nil=>simp
 |cons x l ih=>obtain ⟨k,x⟩:=x;have:=x.size_pos;simp [aA];omega
def sr (p:UInt8→Bool) (s:ByteArray) (k:Nat):Prop:= ∀j (h:j<s.size),j<k→p s[j]=true
def zP (p:UInt8→Bool) (s:ByteArray):Bool:=s.data.toList.all p
theorem jS (p:UInt8→Bool) (s:ByteArray):sr p s 0:=fun j _ h=>by omega
theorem jT {p:UInt8→Bool} {s:ByteArray} {k:Nat} (h:sr p s k) (I:k<s.size) (i:p s[k]=true):sr p s (k+1):=by
 intro j r C;rcases Nat.lt_or_ge j k with g|g
 ·exact h j r g
 ·obtain rfl:j=k:=by omega
  exact i
theorem mA {p:UInt8→Bool} {s:ByteArray} (h:sr p s s.size):zP p s=true:=by
 unfold zP;rw [List.all_eq_true];intro x i;obtain ⟨j,r,rfl⟩:=List.getElem_of_mem i;have g:j<s.size:=by simpa using r
 exact h j g g
theorem jU {p:UInt8→Bool} {s:ByteArray} {k:Nat} (g:k<s.size) (i:p s[k]=false):zP p s=false:=by
 unfold zP;rw [List.all_eq_false];exact ⟨s[k],List.getElem_mem (l:=s.data.toList) (n:=k) (by simpa using g),by rw [i];decide⟩
def okT (c:UInt8):Bool:=(decide (32≤c.toNat)&&decide (c.toNat≤126))||c.toNat==9||c.toNat==10
def dE (s:ByteArray):Bool:=zP okT s&&decide (s.size≤65536)
def okK (c:UInt8):Bool:=decide (32≤c.toNat)&&decide (c.toNat≤126)
def qJ (s:ByteArray):Bool:=zP okK s&&(decide (1≤s.size)&&decide (s.size≤256))
mutual
def V.w:V→Nat
 | .mk _ _ _ s l m=>1+s.size+wL l+wM m
def wL:List V→Nat
 | []=>0
 |x::l=>x.w+wL l
def wM:List (ByteArray×V)→Nat
 | []=>0
 |(y,x)::m=>x.w+y.size+wM m
end
theorem mem_size {l:List V} {x:V} (h:x∈l):x.size≤aK l:=by
 induction l with
 |nil=>cases h
 |cons a l ih=>
  simp only [aK];rcases gB2 h with rfl|h
  ·omega
  ·have:=ih h;omega
theorem fa {l:List (ByteArray×V)} {p:ByteArray×V} (h:p∈l):p.2.size≤aA l:=by
 induction l with
 |nil=>cases h
 |cons a l ih=>
  obtain ⟨k,a⟩:=a;simp only [aA];rcases gB2 h with rfl|h
  ·simp
  ·have:=ih h;omega
def lL (kind:Int) (b:Bool) (n:Int) (s:ByteArray) (l m:Nat):Bool:=
 decide (kind<0)||decide (5<kind)||(decide (kind≠1)&&b)||(decide (kind≠2)&&decide (n≠0))||(decide (kind≠3)&&decide (s≠mz))||(decide (kind≠4)&&decide (0<l))||(decide (kind≠5)&&decide (0<m))
def pA:List (ByteArray×V)→Prop
 | []=>True
 | [_]=>True
 |p::q::m=>Op.bytesLess p.1.toList q.1.toList=true∧pA (q::m)
mutual
def V.good:V→Prop
 | .mk k b n s l m=>lL k b n s l.length m.length=false∧dE s=true∧vB l∧vD m∧pA m
def vB:List V→Prop
 | []=>True
 |x::l=>x.good∧vB l
def vD:List (ByteArray×V)→Prop
 | []=>True
 |(y,x)::m=>qJ y=true∧x.good∧vD m
end
theorem G8 (l:List V):vB l↔ ∀x∈l,x.good:=by
 induction l with
 |nil=>simp [vB]
 |cons x l ih=>simp [vB,ih]
theorem yK (m:List (ByteArray×V)):vD m↔ ∀p∈m,qJ p.1=true∧p.2.good:=by
 induction m with
 |nil=>simp [vD]
 |cons p m ih=>obtain ⟨y,x⟩:=p;rw [vD,ih,List.forall_mem_cons];simp only [and_assoc]
theorem V.good_eq (v:V):v.good↔lL v.kind v.b v.n v.s v.l.length v.m.length=false∧dE v.s=true∧vB v.l∧vD v.m∧pA v.m:=by
 cases v;rw [V.good];rfl
theorem qK: ∀{a b:List UInt8},Op.bytesLess a b=false→(a==b)=false→Op.bytesLess b a=true
 | [],[],_,h=>by simp at h
 | [],_::_,h,_=>by simp [Op.bytesLess] at h
 |_::_,[],_,_=>by simp [Op.bytesLess]
 |x::a,y::b,h,g=>by
  simp only [Op.bytesLess,Bool.or_eq_false_iff,decide_eq_false_iff_not,Bool.and_eq_false_iff,beq_eq_false_iff_ne,UInt8.not_lt] at h;simp only [Op.bytesLess,Bool.or_eq_true,gB0,gA9,beq_iff_eq];by_cases e:x=y
  ·subst e
   exact .inr ⟨rfl,qK (by simpa using h.2) (by simpa using g)⟩
  ·exact .inl (UInt8.lt_of_le_of_ne h.1 fun i=>e i.symm)
def aU (k:ByteArray):List (ByteArray×V)→Option V
 | []=>none
 |(y,x)::m=>if y=k then some x else aU k m
theorem BK {k:ByteArray}: ∀{m:List (ByteArray×V)} {i:Nat} {x:V},(∀j p,j<i→m[j]? =some p→p.1≠k)→m[i]? =some (k,x)→aU k m=some x
 | [],_,_,_,h=>by simp at h
 |(y,v)::m,0,x,_,h=>by
  simp at h;obtain ⟨rfl,rfl⟩:=h;rw [aU,if_pos rfl]
 |(y,v)::m,i+1,x,hn,h=>by
  rw [aU,if_neg (hn 0 (y,v) (by omega) rfl)];exact BK (i:=i) (fun j p r g=>hn (j+1) p (by omega) (by simpa using g)) (by simpa using h)
theorem vE {k:ByteArray}: ∀{m:List (ByteArray×V)},(∀j p,j<m.length→m[j]? =some p→p.1≠k)→aU k m=none
 | [],_=>rfl
 |(y,v)::m,hn=>by
  rw [aU,if_neg (hn 0 (y,v) (by simp) rfl)];exact vE fun j p i g=>hn (j+1) p (by simp;omega) (by simpa using g)
theorem Lb {m:List (ByteArray×V)} {k:Nat} {q:ByteArray×V} {key:ByteArray} (h: ∀j p,j<k→m[j]? =some p→p.1≠key) (hg:m[k]? =some q) (i:q.1≠key): ∀j p,j<k+1→m[j]? =some p→p.1≠key:=by
 intro j y r hy;rcases Nat.lt_or_ge j k with g|g
 ·exact h j y g hy
 ·obtain rfl:j=k:=by omega
  rw [hg] at hy;cases hy;exact i
theorem yL: ∀a:List UInt8,Op.bytesLess a a=false
 | []=>rfl
 |x::a=>by simp [Op.bytesLess,yL a,UInt8.lt_irrefl]
theorem vF: ∀{a b c:List UInt8},Op.bytesLess a b=true→Op.bytesLess b c=true→Op.bytesLess a c=true
 | [],_,[],_,g=>by cases ‹List UInt8› <;>simp [Op.bytesLess] at g
 | [],_,_::_,_,_=>rfl
 |_::_,[],_,h,_=>by simp [Op.bytesLess] at h
 |_::_,_::_,[],_,h=>by simp [Op.bytesLess] at h
 |x::a,y::b,z::c,h,k=>by
  simp only [Op.bytesLess,Bool.or_eq_true,gB0,gA9,beq_iff_eq] at h k⊢;rcases h with h|⟨rfl,h⟩
  ·rcases k with k|⟨rfl,k⟩
   ·exact .inl (UInt8.lt_trans h k)
   ·exact .inl h
  ·rcases k with k|⟨rfl,k⟩
   ·exact .inl k
   ·exact .inr ⟨rfl,vF h k⟩
def klt (a b:ByteArray):Prop:=Op.bytesLess a.toList b.toList=true
theorem D8 {a b:ByteArray} (h:klt a b):a≠b:=by
 rintro rfl;unfold klt at h;rw [yL] at h;cases h
theorem yM: ∀{m:List (ByteArray×V)},pA m→m.Pairwise (fun p q=>klt p.1 q.1)
 | [],_=>List.Pairwise.nil
 | [_],_=>List.pairwise_singleton _ _
 |p::q::m,h=>by
  have ih:=yM h.2;refine List.pairwise_cons.2 ⟨fun r hr=> ?_,ih⟩;rcases gB2 hr with rfl|hr
  ·exact h.1
  ·exact vF h.1 ((List.pairwise_cons.1 ih).1 r hr)
theorem fY: ∀{m:List (ByteArray×V)} {y:ByteArray} {x:V},aU y m=some x→(y,x)∈m
 |(a,v)::m,y,x,h=>by
  rw [aU] at h;split at h
  ·rename_i e;cases e;cases h;simp
  ·exact List.mem_cons_of_mem _ (fY h)
theorem yN: ∀{l:List V} {x:V},x∈l→x.size≤aK l
 |y::l,x,h=>by
  rw [aK];rcases gB2 h with rfl|h
  ·omega
  ·have:=yN h;omega
theorem V.mem_size {v:V} {p:ByteArray×V} (h:p∈v.m):p.2.size<v.size:=by
 have:=fa h;have:=v.size_eq;omega
theorem MW {v:V} (h:v.good) {p:ByteArray×V} (g:p∈v.m):p.2.good:=((yK _).1 (v.good_eq.1 h).2.2.2.1 p g).2
theorem MX {v:V} (h:v.good) {x:V} (g:x∈v.l):x.good:=(G8 _).1 (v.good_eq.1 h).2.2.1 x g
theorem D9 {v:V} (h:v.good):v.m.Pairwise (fun p q=>klt p.1 q.1):=yM (v.good_eq.1 h).2.2.2.2
theorem Ha {v:V} (h:v.good) (g:v.m≠ []):v.kind=5:=by
 have i:=(v.good_eq.1 h).1;have j:0<v.m.length:=List.length_pos_iff.2 g;simp [lL,j] at i;omega
open Classical in
noncomputable def V.sameB (a b:V):Bool:=decide (a=b)
theorem V.sameB_true {a b:V}:a.sameB b=true↔a=b:=by simp [V.sameB]
theorem V.sameB_false {a b:V}:a.sameB b=false↔a≠b:=by simp [V.sameB]
mutual
def V.sb:V→Prop
 | .mk _ _ _ s l m=>s.size≤140737488355328∧(l.length≤2000000000000∧m.length≤2000000000000)∧sbL l∧sbM m
def sbL:List V→Prop
 | []=>True
 |x::l=>x.sb∧sbL l
def sbM:List (ByteArray×V)→Prop
 | []=>True
 |(y,x)::m=>y.size≤140737488355328∧x.sb∧sbM m
end
theorem jV (l:List V):sbL l↔ ∀x∈l,x.sb:=by
 induction l with
 |nil=>simp [sbL]
 |cons x l ih=>simp [sbL,ih]
theorem jW (m:List (ByteArray×V)):sbM m↔ ∀p∈m,p.1.size≤140737488355328∧p.2.sb:=by
 induction m with
 |nil=>simp [sbM]
 |cons p m ih=>obtain ⟨y,x⟩:=p;rw [sbM,ih,List.forall_mem_cons];simp only [and_assoc]
theorem V.sb_eq (v:V):v.sb↔v.s.size≤140737488355328∧(v.l.length≤2000000000000∧v.m.length≤2000000000000)∧sbL v.l∧sbM v.m:=by cases v;rw [V.sb];rfl
theorem NE {v:V} (h:v.sb) {k:Nat} {x:V} (g:v.l[k]? =some x):x.sb:=(jV _).1 ((V.sb_eq v).1 h).2.2.1 x (gA2 g)
theorem Lc {v:V} (h:v.sb) {k:Nat} {y:ByteArray} {x:V} (g:v.m[k]? =some (y,x)):y.size≤140737488355328∧x.sb:=(jW _).1 ((V.sb_eq v).1 h).2.2.2 (y,x) (gA2 g)
theorem NF {v:V} (h:v.sb):v.s.size≤140737488355328:=((V.sb_eq v).1 h).1
theorem pB (n:Nat): ∀v:V,v.size≤n→v.depth≤v.size:=by
 induction n with
 |zero=>intro v h;have:=v.size_pos;omega
 |succ n ih=>
  intro v hn;have p:=v.size_eq
  have i: ∀l:List V,aK l≤n→bU l≤aK l:=by
   intro l
   induction l with
   |nil=>intro _;simp [bU]
   |cons x l g=>intro h;simp only [aK,bU] at h⊢;have:=ih x (by omega);have:=g (by omega);omega
  have j: ∀l:List (ByteArray×V),aA l≤n→b7 l≤aA l:=by
   intro l
   induction l with
   |nil=>intro _;simp [b7]
   |cons x l g=>obtain ⟨y,x⟩:=x;intro h;simp only [aA,b7] at h⊢;have:=ih x (by omega);have:=g (by omega);omega
  have:=i v.l (by omega);have:=j v.m (by omega);rw [V.depth_eq];omega
theorem V.depth_le_size' (v:V):v.depth≤v.size:=pB v.size v (gA4 _)
theorem pC {α:Type} {l:List α} {k:Nat} {x:α} (h:l[k]? =some x):l.drop k=x::l.drop (k+1):=by
 obtain ⟨g,rfl⟩:=gA0 h;exact List.drop_eq_getElem_cons g
def jX:Option ByteArray→ByteArray→Bool
 |none,_=>false
 |some z,y=> !Op.bytesLess z.toList y.toList
mutual
def V.partsC:V→Int
 | .mk k b n s l m=>if lL k b n s l.length m.length then 8 else if dE s=false then 10 else if cH l≠0 then cH l else gG none m
def cH:List V→Int
 | []=>0
 |x::l=>if x.partsC≠0 then x.partsC else cH l
def gG:Option ByteArray→List (ByteArray×V)→Int
 |_,[]=>0
 |p,(y,x)::m=>if qJ y=false then 7 else if jX p y=true then 13 else if x.partsC≠0 then x.partsC else gG (some y) m
end
theorem V.partsC_eq (v:V):v.partsC=if lL v.kind v.b v.n v.s v.l.length v.m.length then 8 else if dE v.s=false then 10 else if cH v.l≠0 then cH v.l else gG none v.m:=by
 cases v;rw [V.partsC];rfl
theorem su {l:List V} {k:Nat} {x:V} (h:l[k]? =some x):cH (l.drop k)=if x.partsC≠0 then x.partsC else cH (l.drop (k+1)):=by
 rw [pC h,cH]
def kZ (m:List (ByteArray×V)):Nat→Option ByteArray
 |0=>none
 |k+1=>m[k]?.map (·.1)
theorem sv {m:List (ByteArray×V)} {k:Nat} {y:ByteArray} {x:V} (h:m[k]? =some (y,x)):gG (kZ m k) (m.drop k)=
  if qJ y=false then 7 else if jX (kZ m k) y=true then 13 else if x.partsC≠0 then x.partsC else gG (kZ m (k+1)) (m.drop (k+1)):=by
 rw [pC h,gG,kZ,h];rfl
theorem vG (n:Nat): ∀v:V,v.size≤n→v.partsC=0→v.good:=by
 induction n with
 |zero=>intro v h;have:=v.size_pos;omega
 |succ n ih=>
  intro v hn h;have e:=v.size_eq;rw [V.partsC_eq] at h;rw [V.good_eq];split at h
  ·cases h
  rename_i J;split at h
  ·cases h
  rename_i P
  have R: ∀l:List V,aK l≤n→cH l=0→vB l:=by
   intro l
   induction l with
   |nil=>intro _ _;trivial
   |cons x l i=>
    intro j hl;simp only [aK] at j;rw [cH] at hl;split at hl
    ·contradiction
    ·rename_i g
     exact ⟨ih x (by omega) (by simpa using g),i (by omega) hl⟩
  have T: ∀(m:List (ByteArray×V)) (p:Option ByteArray),aA m≤n→gG p m=0→vD m∧pA m∧ ∀z,p=some z→ ∀q,m.head? =some q→Op.bytesLess z.toList q.1.toList=true:=by
   intro m
   induction m with
   |nil=>intro p _ _;exact ⟨trivial,trivial,by simp⟩
   |cons q m r=>
    obtain ⟨y,x⟩:=q;intro p j hl;simp only [aA] at j;rw [gG] at hl;split at hl
    ·cases hl
    rename_i g;split at hl
    ·cases hl
    rename_i U;split at hl
    ·contradiction
    rename_i h5;obtain ⟨C,i2,i3⟩:=r (some y) (by omega) hl;refine ⟨⟨by simpa using g,ih x (by omega) (by simpa using h5),C⟩,?_,?_⟩
    ·cases m with
     |nil=>trivial
     |cons q m=>exact ⟨i3 y rfl q rfl,i2⟩
    ·rintro z rfl q I
     simp at I;subst I;simpa [jX] using U
  split at h
  ·contradiction
  rename_i g;obtain ⟨C,i2,_⟩:=T v.m none (by omega) h;exact ⟨by simpa using J,by simpa using P,R v.l (by omega) (by simpa using g),C,i2⟩
theorem V.parts_good {v:V} (h:v.partsC=0):v.good:=vG v.size v (gA4 _) h
def V.checkC (v:V):Int:=if 16<v.depth then 5 else if 4096<v.size then 6 else v.partsC
theorem V.check_good {v:V} (h:v.checkC=0):v.good∧v.size≤4096∧v.depth≤16:=by
 unfold V.checkC at h;split at h
 ·cases h
 split at h
 ·cases h
 exact ⟨V.parts_good h,by omega,by omega⟩
end Go.Proofs.YtbgflifmanjpjaaGreatDoor
