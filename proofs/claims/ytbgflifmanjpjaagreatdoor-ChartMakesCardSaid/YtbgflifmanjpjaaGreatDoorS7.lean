/- Part 7. -/
import Derived.Test.YtbgflifmanjpjaaGreatDoorS6
set_option linter.unusedSimpArgs false
set_option linter.unusedVariables false
namespace Go.Proofs.YtbgflifmanjpjaaGreatDoor
open Go.RowKit
inductive V where
 |mk (kind:Int) (b:Bool) (n:Int) (s:ByteArray) (l:List V) (m:List (ByteArray×V))
def V.kind:V→Int| .mk k _ _ _ _ _=>k
def V.b:V→Bool| .mk _ b _ _ _ _=>b
def V.n:V→Int| .mk _ _ n _ _ _=>n
def V.s:V→ByteArray| .mk _ _ _ s _ _=>s
def V.l:V→List V| .mk _ _ _ _ l _=>l
def V.m:V→List (ByteArray×V)| .mk _ _ _ _ _ m=>m
def oT:ByteArray:=⟨#[]⟩
def V.null:V:= .mk 0 false 0 oT [] []
theorem V.ext_iff' {a b:V}:a=b↔a.kind=b.kind∧a.b=b.b∧a.n=b.n∧a.s=b.s∧a.l=b.l∧a.m=b.m:=by
 cases a;cases b;simp [V.kind,V.b,V.n,V.s,V.l,V.m]
instance:Inhabited V:=⟨V.null⟩
section
variable {d d' :Nat} {w w' :World} {B B' :Nat} {cs:List Value} {v:V}
end
mutual
def V.size:V→Nat
 | .mk _ _ _ _ l m=>1+aO l+aF m
def aO:List V→Nat
 | []=>0
 |x::l=>x.size+aO l
def aF:List (ByteArray×V)→Nat
 | []=>0
 |(_,x)::m=>x.size+aF m
end
mutual
def V.depth:V→Nat
 | .mk _ _ _ _ l m=>max (dl l) (dm m)+1
def dl:List V→Nat
 | []=>0
 |x::l=>max x.depth (dl l)
def dm:List (ByteArray×V)→Nat
 | []=>0
 |(_,x)::m=>max x.depth (dm m)
end
theorem V.size_eq (v:V):v.size=1+aO v.l+aF v.m:=by cases v;simp [V.size,V.l,V.m]
theorem V.depth_eq (v:V):v.depth=max (dl v.l) (dm v.m)+1:=by cases v;simp [V.depth,V.l,V.m]
theorem cr (a b:List V):aO (a++b)=aO a+aO b:=by
 induction a with
 |nil=>simp [aO]
 |cons x a ih=>(simp [aO,ih]<;>omega)
theorem oU (a b:List (ByteArray×V)):aF (a++b)=aF a+aF b:=by
 induction a with
 |nil=>simp [aF]
 |cons x a ih=>obtain ⟨k,x⟩:=x;(simp [aF,ih]<;>omega)
theorem vZ (a b:List V):dl (a++b)=max (dl a) (dl b):=by
 induction a with
 |nil=>simp [dl]
 |cons x a ih=>(simp [dl,ih]<;>omega)
theorem v6 (a b:List (ByteArray×V)):dm (a++b)=max (dm a) (dm b):=by
 induction a with
 |nil=>simp [dm]
 |cons x a ih=>obtain ⟨k,x⟩:=x;(simp [dm,ih]<;>omega)
theorem eK {α:Type} {l:List α} {k:Nat} {x:α} (h:l[k]? =some x):l.take (k+1)=l.take k++ [x]:=by rw [List.take_add_one,h];rfl
theorem jr {l:List V} {k:Nat} {x:V} (h:l[k]? =some x):aO (l.take (k+1))=aO (l.take k)+x.size:=by rw [eK h,cr];simp [aO]
theorem js {l:List (ByteArray×V)} {k:Nat} {y:ByteArray} {x:V} (h:l[k]? =some (y,x)):aF (l.take (k+1))=aF (l.take k)+x.size:=by rw [eK h,oU];simp [aF]
theorem Am {l:List V} {k:Nat} {x:V} (h:l[k]? =some x):dl (l.take (k+1))=max (dl (l.take k)) x.depth:=by rw [eK h,vZ];simp [dl]
theorem An {l:List (ByteArray×V)} {k:Nat} {y:ByteArray} {x:V} (h:l[k]? =some (y,x)):dm (l.take (k+1))=max (dm (l.take k)) x.depth:=by rw [eK h,v6];simp [dm]
theorem eS (l:List V) (k:Nat):aO (l.take k)≤aO l:=by
 have:=cr (l.take k) (l.drop k);rw [List.take_append_drop] at this;omega
theorem dD (l:List (ByteArray×V)) (k:Nat):aF (l.take k)≤aF l:=by
 have:=oU (l.take k) (l.drop k);rw [List.take_append_drop] at this;omega
theorem V.size_pos (v:V):1≤v.size:=by rw [V.size_eq];omega
theorem bW (l:List V):l.length≤aO l:=by
 induction l with
 |nil=>simp
 |cons x l ih=>have:=x.size_pos;simp [aO];omega
theorem bz (l:List (ByteArray×V)):l.length≤aF l:=by
 induction l with
 |nil=>simp
 |cons x l ih=>obtain ⟨k,x⟩:=x;have:=x.size_pos;simp [aF];omega
def xn (p:UInt8→Bool) (s:ByteArray) (k:Nat):Prop:= ∀j (h:j<s.size),j<k→p s[j]=true
def yu (p:UInt8→Bool) (s:ByteArray):Bool:=s.data.toList.all p
theorem um (p:UInt8→Bool) (s:ByteArray):xn p s 0:=fun j _ h=>by omega
theorem uo {p:UInt8→Bool} {s:ByteArray} {k:Nat} (h:xn p s k) (I:k<s.size) (i:p s[k]=true):xn p s (k+1):=by
 intro j r C;rcases Nat.lt_or_ge j k with g|g
 ·exact h j r g
 ·obtain rfl:j=k:=by omega
  exact i
theorem xp {p:UInt8→Bool} {s:ByteArray} (h:xn p s s.size):yu p s=true:=by
 unfold yu;rw [List.all_eq_true];intro x i;obtain ⟨j,r,rfl⟩:=List.getElem_of_mem i;have g:j<s.size:=by simpa using r
 exact h j g g
theorem uq {p:UInt8→Bool} {s:ByteArray} {k:Nat} (g:k<s.size) (i:p s[k]=false):yu p s=false:=by
 unfold yu;rw [List.all_eq_false];exact ⟨s[k],List.getElem_mem (l:=s.data.toList) (n:=k) (by simpa using g),by rw [i];decide⟩
def okT (c:UInt8):Bool:=(decide (32≤c.toNat)&&decide (c.toNat≤126))||c.toNat==9||c.toNat==10
def eZ (s:ByteArray):Bool:=yu okT s&&decide (s.size≤65536)
def okK (c:UInt8):Bool:=decide (32≤c.toNat)&&decide (c.toNat≤126)
def yv (s:ByteArray):Bool:=yu okK s&&(decide (1≤s.size)&&decide (s.size≤256))
mutual
def V.w:V→Nat
 | .mk _ _ _ s l m=>1+s.size+wL l+wM m
def wL:List V→Nat
 | []=>0
 |x::l=>x.w+wL l
def wM:List (ByteArray×V)→Nat
 | []=>0
 |(y,x)::m=>x.w+y.size+wM m
end
theorem mem_size {l:List V} {x:V} (h:x∈l):x.size≤aO l:=by
 induction l with
 |nil=>cases h
 |cons a l ih=>
  simp only [aO];rcases gB2 h with rfl|h
  ·omega
  ·have:=ih h;omega
theorem fO {l:List (ByteArray×V)} {p:ByteArray×V} (h:p∈l):p.2.size≤aF l:=by
 induction l with
 |nil=>cases h
 |cons a l ih=>
  obtain ⟨k,a⟩:=a;simp only [aF];rcases gB2 h with rfl|h
  ·simp
  ·have:=ih h;omega
def nF (kind:Int) (b:Bool) (n:Int) (s:ByteArray) (l m:Nat):Bool:=
 decide (kind<0)||decide (5<kind)||(decide (kind≠1)&&b)||(decide (kind≠2)&&decide (n≠0))||(decide (kind≠3)&&decide (s≠oT))||(decide (kind≠4)&&decide (0<l))||(decide (kind≠5)&&decide (0<m))
def oV:List (ByteArray×V)→Prop
 | []=>True
 | [_]=>True
 |p::q::m=>Op.bytesLess p.1.toList q.1.toList=true∧oV (q::m)
mutual
def V.good:V→Prop
 | .mk k b n s l m=>nF k b n s l.length m.length=false∧eZ s=true∧Eg l∧ur m∧oV m
def Eg:List V→Prop
 | []=>True
 |x::l=>x.good∧Eg l
def ur:List (ByteArray×V)→Prop
 | []=>True
 |(y,x)::m=>yv y=true∧x.good∧ur m
end
theorem xq (m:List (ByteArray×V)):ur m↔ ∀p∈m,yv p.1=true∧p.2.good:=by
 induction m with
 |nil=>simp [ur]
 |cons p m ih=>obtain ⟨y,x⟩:=p;rw [ur,ih,List.forall_mem_cons];simp only [and_assoc]
theorem V.good_eq (v:V):v.good↔nF v.kind v.b v.n v.s v.l.length v.m.length=false∧eZ v.s=true∧Eg v.l∧ur v.m∧oV v.m:=by
 cases v;rw [V.good];rfl
theorem qf: ∀{a b:List UInt8},Op.bytesLess a b=false→(a==b)=false→Op.bytesLess b a=true
 | [],[],_,h=>by simp at h
 | [],_::_,h,_=>by simp [Op.bytesLess] at h
 |_::_,[],_,_=>by simp [Op.bytesLess]
 |x::a,y::b,h,g=>by
  simp only [Op.bytesLess,Bool.or_eq_false_iff,decide_eq_false_iff_not,Bool.and_eq_false_iff,beq_eq_false_iff_ne,UInt8.not_lt] at h;simp only [Op.bytesLess,Bool.or_eq_true,gB0,gA9,beq_iff_eq];by_cases e:x=y
  ·subst e
   exact .inr ⟨rfl,qf (by simpa using h.2) (by simpa using g)⟩
  ·exact .inl (UInt8.lt_of_le_of_ne h.1 fun i=>e i.symm)
def bh (k:ByteArray):List (ByteArray×V)→Option V
 | []=>none
 |(y,x)::m=>if y=k then some x else bh k m
theorem Ao {k:ByteArray}: ∀{m:List (ByteArray×V)} {i:Nat} {x:V},(∀j p,j<i→m[j]? =some p→p.1≠k)→m[i]? =some (k,x)→bh k m=some x
 | [],_,_,_,h=>by simp at h
 |(y,v)::m,0,x,_,h=>by
  simp at h;obtain ⟨rfl,rfl⟩:=h;rw [bh,if_pos rfl]
 |(y,v)::m,i+1,x,hn,h=>by
  rw [bh,if_neg (hn 0 (y,v) (by omega) rfl)];exact Ao (i:=i) (fun j p r g=>hn (j+1) p (by omega) (by simpa using g)) (by simpa using h)
theorem ut {k:ByteArray}: ∀{m:List (ByteArray×V)},(∀j p,j<m.length→m[j]? =some p→p.1≠k)→bh k m=none
 | [],_=>rfl
 |(y,v)::m,hn=>by
  rw [bh,if_neg (hn 0 (y,v) (by simp) rfl)];exact ut fun j p i g=>hn (j+1) p (by simp;omega) (by simpa using g)
theorem Jf {m:List (ByteArray×V)} {k:Nat} {q:ByteArray×V} {key:ByteArray} (h: ∀j p,j<k→m[j]? =some p→p.1≠key) (hg:m[k]? =some q) (i:q.1≠key): ∀j p,j<k+1→m[j]? =some p→p.1≠key:=by
 intro j y r hy;rcases Nat.lt_or_ge j k with g|g
 ·exact h j y g hy
 ·obtain rfl:j=k:=by omega
  rw [hg] at hy;cases hy;exact i
theorem xr: ∀a:List UInt8,Op.bytesLess a a=false
 | []=>rfl
 |x::a=>by simp [Op.bytesLess,xr a,UInt8.lt_irrefl]
theorem uu: ∀{a b c:List UInt8},Op.bytesLess a b=true→Op.bytesLess b c=true→Op.bytesLess a c=true
 | [],_,[],_,g=>by cases ‹List UInt8› <;>simp [Op.bytesLess] at g
 | [],_,_::_,_,_=>rfl
 |_::_,[],_,h,_=>by simp [Op.bytesLess] at h
 |_::_,_::_,[],_,h=>by simp [Op.bytesLess] at h
 |x::a,y::b,z::c,h,k=>by
  simp only [Op.bytesLess,Bool.or_eq_true,gB0,gA9,beq_iff_eq] at h k⊢;rcases h with h|⟨rfl,h⟩
  ·rcases k with k|⟨rfl,k⟩
   ·exact .inl (UInt8.lt_trans h k)
   ·exact .inl h
  ·rcases k with k|⟨rfl,k⟩
   ·exact .inl k
   ·exact .inr ⟨rfl,uu h k⟩
def klt (a b:ByteArray):Prop:=Op.bytesLess a.toList b.toList=true
theorem CO {a b:ByteArray} (h:klt a b):a≠b:=by
 rintro rfl;unfold klt at h;rw [xr] at h;cases h
theorem xt: ∀{m:List (ByteArray×V)},oV m→m.Pairwise (fun p q=>klt p.1 q.1)
 | [],_=>List.Pairwise.nil
 | [_],_=>List.pairwise_singleton _ _
 |p::q::m,h=>by
  have ih:=xt h.2;refine List.pairwise_cons.2 ⟨fun r hr=> ?_,ih⟩;rcases gB2 hr with rfl|hr
  ·exact h.1
  ·exact uu h.1 ((List.pairwise_cons.1 ih).1 r hr)
theorem jt: ∀{m:List (ByteArray×V)} {y:ByteArray} {x:V},bh y m=some x→(y,x)∈m
 |(a,v)::m,y,x,h=>by
  rw [bh] at h;split at h
  ·rename_i e;cases e;cases h;simp
  ·exact List.mem_cons_of_mem _ (jt h)
theorem V.mem_size {v:V} {p:ByteArray×V} (h:p∈v.m):p.2.size<v.size:=by
 have:=fO h;have:=v.size_eq;omega
theorem KO {v:V} (h:v.good) {p:ByteArray×V} (g:p∈v.m):p.2.good:=((xq _).1 (v.good_eq.1 h).2.2.2.1 p g).2
theorem CP {v:V} (h:v.good):v.m.Pairwise (fun p q=>klt p.1 q.1):=xt (v.good_eq.1 h).2.2.2.2
theorem Fm {v:V} (h:v.good) (g:v.m≠ []):v.kind=5:=by
 have i:=(v.good_eq.1 h).1;have j:0<v.m.length:=List.length_pos_iff.2 g;simp [nF,j] at i;omega
open Classical in
noncomputable def V.sameB (a b:V):Bool:=decide (a=b)
theorem V.sameB_true {a b:V}:a.sameB b=true↔a=b:=by simp [V.sameB]
theorem V.sameB_false {a b:V}:a.sameB b=false↔a≠b:=by simp [V.sameB]
mutual
def V.sb:V→Prop
 | .mk _ _ _ s l m=>s.size≤140737488355328∧(l.length≤2000000000000∧m.length≤2000000000000)∧sbL l∧sbM m
def sbL:List V→Prop
 | []=>True
 |x::l=>x.sb∧sbL l
def sbM:List (ByteArray×V)→Prop
 | []=>True
 |(y,x)::m=>y.size≤140737488355328∧x.sb∧sbM m
end
theorem l4 (l:List V):sbL l↔ ∀x∈l,x.sb:=by
 induction l with
 |nil=>simp [sbL]
 |cons x l ih=>simp [sbL,ih]
theorem l5 (m:List (ByteArray×V)):sbM m↔ ∀p∈m,p.1.size≤140737488355328∧p.2.sb:=by
 induction m with
 |nil=>simp [sbM]
 |cons p m ih=>obtain ⟨y,x⟩:=p;rw [sbM,ih,List.forall_mem_cons];simp only [and_assoc]
theorem V.sb_eq (v:V):v.sb↔v.s.size≤140737488355328∧(v.l.length≤2000000000000∧v.m.length≤2000000000000)∧sbL v.l∧sbM v.m:=by cases v;rw [V.sb];rfl
theorem LT {v:V} (h:v.sb) {k:Nat} {x:V} (g:v.l[k]? =some x):x.sb:=(l4 _).1 ((V.sb_eq v).1 h).2.2.1 x (gA2 g)
theorem Ls {v:V} (h:v.sb) {k:Nat} {y:ByteArray} {x:V} (g:v.m[k]? =some (y,x)):y.size≤140737488355328∧x.sb:=(l5 _).1 ((V.sb_eq v).1 h).2.2.2 (y,x) (gA2 g)
theorem LU {v:V} (h:v.sb):v.s.size≤140737488355328:=((V.sb_eq v).1 h).1
theorem oW (n:Nat): ∀v:V,v.size≤n→v.depth≤v.size:=by
 induction n with
 |zero=>intro v h;have:=v.size_pos;omega
 |succ n ih=>
  intro v hn;have p:=v.size_eq
  have i: ∀l:List V,aO l≤n→dl l≤aO l:=by
   intro l
   induction l with
   |nil=>intro _;simp [dl]
   |cons x l g=>intro h;simp only [aO,dl] at h⊢;have:=ih x (by omega);have:=g (by omega);omega
  have j: ∀l:List (ByteArray×V),aF l≤n→dm l≤aF l:=by
   intro l
   induction l with
   |nil=>intro _;simp [dm]
   |cons x l g=>obtain ⟨y,x⟩:=x;intro h;simp only [aF,dm] at h⊢;have:=ih x (by omega);have:=g (by omega);omega
  have:=i v.l (by omega);have:=j v.m (by omega);rw [V.depth_eq];omega
theorem V.depth_le_size' (v:V):v.depth≤v.size:=oW v.size v (gA4 _)
theorem ju {α:Type} {l:List α} {k:Nat} {x:α} (h:l[k]? =some x):l.drop k=x::l.drop (k+1):=by
 obtain ⟨g,rfl⟩:=gA0 h;exact List.drop_eq_getElem_cons g
def qg:Option ByteArray→ByteArray→Bool
 |none,_=>false
 |some z,y=> !Op.bytesLess z.toList y.toList
mutual
def V.partsC:V→Int
 | .mk k b n s l m=>if nF k b n s l.length m.length then 8 else if eZ s=false then 10 else if dn l≠0 then dn l else g6 none m
def dn:List V→Int
 | []=>0
 |x::l=>if x.partsC≠0 then x.partsC else dn l
def g6:Option ByteArray→List (ByteArray×V)→Int
 |_,[]=>0
 |p,(y,x)::m=>if yv y=false then 7 else if qg p y=true then 13 else if x.partsC≠0 then x.partsC else g6 (some y) m
end
theorem V.partsC_eq (v:V):v.partsC=if nF v.kind v.b v.n v.s v.l.length v.m.length then 8 else if eZ v.s=false then 10 else if dn v.l≠0 then dn v.l else g6 none v.m:=by
 cases v;rw [V.partsC];rfl
theorem Ap {l:List V} {k:Nat} {x:V} (h:l[k]? =some x):dn (l.drop k)=if x.partsC≠0 then x.partsC else dn (l.drop (k+1)):=by
 rw [ju h,dn]
def rA (m:List (ByteArray×V)):Nat→Option ByteArray
 |0=>none
 |k+1=>m[k]?.map (·.1)
theorem Aq {m:List (ByteArray×V)} {k:Nat} {y:ByteArray} {x:V} (h:m[k]? =some (y,x)):g6 (rA m k) (m.drop k)=
  if yv y=false then 7 else if qg (rA m k) y=true then 13 else if x.partsC≠0 then x.partsC else g6 (rA m (k+1)) (m.drop (k+1)):=by
 rw [ju h,g6,rA,h];rfl
theorem uv (n:Nat): ∀v:V,v.size≤n→v.partsC=0→v.good:=by
 induction n with
 |zero=>intro v h;have:=v.size_pos;omega
 |succ n ih=>
  intro v hn h;have e:=v.size_eq;rw [V.partsC_eq] at h;rw [V.good_eq];split at h
  ·cases h
  rename_i J;split at h
  ·cases h
  rename_i P
  have R: ∀l:List V,aO l≤n→dn l=0→Eg l:=by
   intro l
   induction l with
   |nil=>intro _ _;trivial
   |cons x l i=>
    intro j hl;simp only [aO] at j;rw [dn] at hl;split at hl
    ·contradiction
    ·rename_i g
     exact ⟨ih x (by omega) (by simpa using g),i (by omega) hl⟩
  have T: ∀(m:List (ByteArray×V)) (p:Option ByteArray),aF m≤n→g6 p m=0→ur m∧oV m∧ ∀z,p=some z→ ∀q,m.head? =some q→Op.bytesLess z.toList q.1.toList=true:=by
   intro m
   induction m with
   |nil=>intro p _ _;exact ⟨trivial,trivial,by simp⟩
   |cons q m r=>
    obtain ⟨y,x⟩:=q;intro p j hl;simp only [aF] at j;rw [g6] at hl;split at hl
    ·cases hl
    rename_i g;split at hl
    ·cases hl
    rename_i U;split at hl
    ·contradiction
    rename_i h5;obtain ⟨C,i2,i3⟩:=r (some y) (by omega) hl;refine ⟨⟨by simpa using g,ih x (by omega) (by simpa using h5),C⟩,?_,?_⟩
    ·cases m with
     |nil=>trivial
     |cons q m=>exact ⟨i3 y rfl q rfl,i2⟩
    ·rintro z rfl q I
     simp at I;subst I;simpa [qg] using U
  split at h
  ·contradiction
  rename_i g;obtain ⟨C,i2,_⟩:=T v.m none (by omega) h;exact ⟨by simpa using J,by simpa using P,R v.l (by omega) (by simpa using g),C,i2⟩
theorem V.parts_good {v:V} (h:v.partsC=0):v.good:=uv v.size v (gA4 _) h
def V.checkC (v:V):Int:=if 16<v.depth then 5 else if 4096<v.size then 6 else v.partsC
theorem V.check_good {v:V} (h:v.checkC=0):v.good∧v.size≤4096∧v.depth≤16:=by
 unfold V.checkC at h;split at h
 ·cases h
 split at h
 ·cases h
 exact ⟨V.parts_good h,by omega,by omega⟩
end Go.Proofs.YtbgflifmanjpjaaGreatDoor
