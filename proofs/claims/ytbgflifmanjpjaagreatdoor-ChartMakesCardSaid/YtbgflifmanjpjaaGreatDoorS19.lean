/- Part 19. -/
import Derived.Test.YtbgflifmanjpjaaGreatDoorS18
import Derived.Lib.TrimByte
import Derived.Lib.IndexMore
set_option linter.unusedSimpArgs false
set_option linter.unusedVariables false
namespace Go.Proofs.YtbgflifmanjpjaaGreatDoor
section
open Go.RowKit
abbrev Bs:=List UInt8
def toB (l:Bs):ByteArray:=⟨l.toArray⟩
def iI (l:List V):V:= .mk 4 false 0 ⟨#[]⟩ l []
def tl (l:Bs):Bs:=Lib.trimLeftB l 32
def tr (l:Bs):Bs:=Lib.trimRightB l 32
def isQ (c:UInt8):Bool:=c==34||c==39
def lr:Bs→Option (Bs×Bs)
 | []=>none
 |c::l=>if c=34 then dbl l [] else if c=39 then sgl l [] else none
theorem yU (s:ByteArray):unq s=lr s.data.toList:=rfl
def pm (s:Bs) (i:Nat):Option UInt8:=if i=0 then none else s[i-1]?
def Hw:Option UInt8→Bool
 |none=>true
 |some q=>q==32
def Et:Option UInt8→Bool
 |none=>true
 |some q=>q==32||q==91||q==123||q==44
def rF (s:Bs):Nat→Nat→Nat
 |0,_=>s.length
 |n+1,i=>match s.drop i with
  | []=>s.length
  |c::t=>if (c==35&&Hw (pm s i))=true then i else if (isQ c&&Et (pm s i))=true then (match lr (c::t) with
   |none=>s.length
   |some (_,rest)=>rF s n (s.length-rest.length))
   else rF s n (i+1)
def cy (s:Bs):Bs:=s.take (rF s (s.length+1) 0)
def fH (x:Bs):Option (Option (Nat×Bs)):=
 match tl (tr (cy x)) with
 | []=>some none
 |c::t=>if c=9 then none else some (some ((tr (cy x)).length-(c::t).length,c::t))
def bC:List Bs→Option (List (Nat×Bs))
 | []=>some []
 |x::l=>match fH x with
  |none=>none
  |some o=>match bC l with
   |none=>none
   |some r=>some (o.toList++r)
def dq (s:Bs):Bool:=s== [45]|| [45,32].isPrefixOf s
def LX (c:UInt8):Bool:=([91,93,123,125,44,38,42,33,124,62,37,64,35,63,58,34,39,96]:Bs).contains c
def sv:Bs→Bool
 | []=>false
 |c::_=>LX c
def yV:Bs→Bool
 | []=>false
 |c::_=>isQ c
def cP (s:Bs):Option (Bs×Bs):=
 if yV s=true then (match lr s with
  |none=>none
  |some (key,rest)=>match rest with
   | []=>none
   |c::r=>if c=58 then (match r with
    | []=>some (key,[])
    |d::_=>if d=32 then some (key,tl r) else none) else none)
 else if Lib.index s [58,32]<0 then
  (if Lib.hasSuffix s [58]=true then (if tr (s.take (s.length-1))= []∨sv (tr (s.take (s.length-1)))=true then none else some (tr (s.take (s.length-1)),[])) else none)
 else if tr (s.take (Lib.index s [58,32]).toNat)= []∨sv (tr (s.take (Lib.index s [58,32]).toNat))=true then none
 else some (tr (s.take (Lib.index s [58,32]).toNat),tl (s.drop ((Lib.index s [58,32]).toNat+1)))
inductive FM where
 |one (ends:Bs)
 |flow (out:List V)
 |braces (out:List (ByteArray×V))
def di (w:Bs):Bool:=w.isEmpty||sv w||decide (0≤Lib.index w [58,32])||Lib.hasSuffix w [58]
def qs (s:Bs):Bs×Bs×Int:=
 if yV s=true then (match lr s with
  |none=>([],[],11)
  |some (key,rest)=>match rest with
   | []=>([],[],10)
   |c::r=>if c=58 then (key,r,0) else ([],[],10))
 else if Lib.indexByte s 58= -1 then ([],[],10)
 else if ((tr (s.take (Lib.indexByte s 58).toNat)).isEmpty||sv (tr (s.take (Lib.indexByte s 58).toNat))||(tr (s.take (Lib.indexByte s 58).toNat)).contains 44||(tr (s.take (Lib.indexByte s 58).toNat)).contains 93||(tr (s.take (Lib.indexByte s 58).toNat)).contains 125)=true then ([],[],10)
 else (tr (s.take (Lib.indexByte s 58).toNat),s.drop ((Lib.indexByte s 58).toNat+1),0)
def cz (ends s:Bs):Nat:=if ends= [] then s.length else (s.takeWhile fun c=> !ends.contains c).length
def br:Nat→FM→Bs→V×Bs×Int
 |0,_,_=>(V.null,[],10)
 |n+1,.one ends,s=>match tl s with
  | []=>(V.null,[],10)
  |c::t=>if c=91 then (match tl t with
   | []=>br n (.flow []) []
   |d::u=>if d=93 then (iI [],tl u,0) else br n (.flow []) (d::u))
   else if c=123 then (match tl t with
    | []=>br n (.braces []) []
    |d::u=>if d=125 then (b8 [],tl u,0) else br n (.braces []) (d::u))
   else if isQ c=true then (match lr (c::t) with
    |none=>(V.str ⟨#[]⟩,[],11)
    |some (x,rest)=>(V.str (toB x),tl rest,0))
   else if di (tr ((c::t).take (cz ends (c::t))))=true then (V.null,[],10)
   else ((bn (toB (tr ((c::t).take (cz ends (c::t)))))).1,(c::t).drop (cz ends (c::t)),(bn (toB (tr ((c::t).take (cz ends (c::t)))))).2)
 |n+1,.flow out,s=>match br n (.one [44,93]) s with
  |(v,rest,e)=>if e≠0 then (V.null,[],e) else match rest with
   | []=>(V.null,[],10)
   |c::u=>if c=93 then (iI (out++ [v]),tl u,0) else if c=44 then br n (.flow (out++ [v])) u else (V.null,[],10)
 |n+1,.braces out,s=>match qs (tl s) with
  |(key,rest,k)=>if k≠0 then (V.null,[],k) else if (bh (toB key) out).isSome=true then (V.null,[],13) else match br n (.one [44,125]) rest with
   |(v,more,e)=>if e≠0 then (V.null,[],e) else match more with
    | []=>(V.null,[],10)
    |c::u=>if c=125 then (b8 (ap (toB key) v out),tl u,0) else if c=44 then br n (.braces (ap (toB key) v out)) u else (V.null,[],10)
def mb (s:Bs):V×Int:=match br (2*s.length+1) (.one []) s with
 |(v,rest,e)=>if e≠0 then (V.null,e) else if rest≠ [] then (V.null,10) else (v,0)
structure YR where
 l:List (Nat×Bs)
 at_:Nat
 bad:Int
def YR.fail (st:YR) (e:Int):YR:=⟨st.l,st.l.length,if st.bad=0 then e else st.bad⟩
inductive YM where
 |block
 |below
 |list (out:List V)
 |pairs (out:List (ByteArray×V))
def kh (s:Bs) (st:YR):V×YR:=match mb s with
 |(v,e)=>if e≠0 then (V.null,st.fail e) else (v,st)
def YR.deep (st:YR) (i:Nat):Bool:=match st.l[st.at_]? with
 |some (j,_)=>decide (i<j)
 |none=>false
def aZ:Nat→YM→Nat→YR→V×YR
 |0,_,_,st=>(V.null,st)
 |n+1,.block,i,st=>match st.l[st.at_]? with
  |none=>(V.null,st)
  |some (_,text)=>match (if dq text=true then aZ n (.list []) i st else if (cP text).isSome=true then aZ n (.pairs []) i st else kh text ⟨st.l,st.at_+1,st.bad⟩) with
   |(v,st1)=>if st1.deep i=true then (V.null,st1.fail 12) else (v,st1)
 |n+1,.below,i,st=>match st.l[st.at_]? with
  |none=>(V.null,st)
  |some (j,_)=>if i<j then aZ n .block j st else (V.null,st)
 |n+1,.list out,i,st=>match st.l[st.at_]? with
  |none=>(iI out,st)
  |some (j,text)=>if j=i∧dq text=true then
   (if tl (text.drop 1)= [] then (match aZ n .below i ⟨st.l,st.at_+1,st.bad⟩ with
    |(v,st1)=>aZ n (.list (out++ [v])) i st1)
   else (match aZ n .block (i+text.length-(tl (text.drop 1)).length) ⟨st.l.set st.at_ (i+text.length-(tl (text.drop 1)).length,tl (text.drop 1)),st.at_,st.bad⟩ with
    |(v,st1)=>aZ n (.list (out++ [v])) i st1))
   else (iI out,st)
 |n+1,.pairs out,i,st=>match st.l[st.at_]? with
  |none=>(b8 out,st)
  |some (j,text)=>if j=i then (if dq text=true then (V.null,st.fail 10) else match cP text with
   |none=>(V.null,st.fail 10)
   |some (key,rest)=>if (bh (toB key) out).isSome=true then (V.null,st.fail 13) else match (if rest= [] then aZ n .below i ⟨st.l,st.at_+1,st.bad⟩ else kh rest ⟨st.l,st.at_+1,st.bad⟩) with
    |(v,st1)=>aZ n (.pairs (ap (toB key) v out)) i st1)
   else (b8 out,st)
def wAt (l:List (Nat×Bs)):Nat:=(l.map fun x=>x.2.length+1).sum
def YR.w (st:YR):Nat:=wAt (st.l.drop st.at_)
def Da (g:List (Nat×Bs)):V×Int:=match g with
 | []=>(V.null,0)
 |(i,_)::_=>match aZ (3*wAt g+3) .block i ⟨g,0,0⟩ with
  |(v,st)=>if st.bad≠0 then (V.null,st.bad) else if st.at_<g.length then (V.null,10) else if v.checkC≠0 then (V.null,v.checkC) else (v,0)
def bi (s:ByteArray):V×Int:=if 65536<s.size then (V.null,6) else match bC ((bX 10 s).map fun x=>x.data.toList) with
 |none=>(V.null,12)
 |some g=>Da g
end
section
open Go.RowKit
theorem cQ (l:Bs):(tl l).length≤l.length:=(List.dropWhile_sublist _).length_le
theorem ia (l:Bs):(tr l).length≤l.length:=by
 unfold tr Lib.trimRightB;have:=(List.dropWhile_sublist (p:=(· ==(32:UInt8))) (l:=l.reverse)).length_le;simpa using this
theorem Ji: ∀(n:Nat) (l out x r:Bs),l.length≤n→dbl l out=some (x,r)→x.length+r.length+1≤out.length+l.length:=by
 intro n
 induction n with
 |zero=>
  intro l out x r hl h;have:l= []:=List.eq_nil_of_length_eq_zero (by omega);subst this;simp [dbl] at h
 |succ n ih=>
  intro l out x r hl h;cases l with
  |nil=>simp [dbl] at h
  |cons c l=>
   rw [AQ] at h;simp only [gA3] at hl⊢;split at h
   ·cases h;omega
   ·split at h
    ·cases l with
     |nil=>cases h
     |cons d l=>
      simp only [gA3] at hl⊢;simp only at h;split at h
      ·have:=ih l _ x r (by omega) h;simp at this;omega
      ·split at h
       ·have:=ih l _ x r (by omega) h;simp at this;omega
       ·split at h
        ·have:=ih l _ x r (by omega) h;simp at this;omega
        ·cases h
    ·split at h
     ·cases h
     ·have:=ih l _ x r (by omega) h;simp at this;omega
theorem Jj: ∀(n:Nat) (l out x r:Bs),l.length≤n→sgl l out=some (x,r)→x.length+r.length+1≤out.length+l.length:=by
 intro n
 induction n with
 |zero=>
  intro l out x r hl h;have:l= []:=List.eq_nil_of_length_eq_zero (by omega);subst this;simp [sgl] at h
 |succ n ih=>
  intro l out x r hl h;cases l with
  |nil=>simp [sgl] at h
  |cons c l=>
   rw [AR] at h;simp only [gA3] at hl⊢;split at h
   ·cases l with
    |nil=>cases h;simp
    |cons d l=>
     simp only [gA3] at hl⊢;simp only at h;split at h
     ·have:=ih l _ x r (by omega) h;simp at this;omega
     ·cases h;simp only [gA3];omega
   ·have:=ih l _ x r (by omega) h;simp at this;omega
theorem gT {l x r:Bs} (h:lr l=some (x,r)):x.length+r.length+2≤l.length:=by
 cases l with
 |nil=>cases h
 |cons c l=>
  simp only [lr] at h;simp only [gA3];split at h
  ·have:=Ji _ l _ x r (gA4 _) h;simp at this;omega
  ·split at h
   ·have:=Jj _ l _ x r (gA4 _) h;simp at this;omega
   ·cases h
theorem FA (s:ByteArray):(bn s).1.ord∧(s.size≤1000000→(bn s).1.sb)∧(bn s).1.size=1:=by
 have g: ∀k b n s,(V.mk k b n s [] []).size=1:=fun k b n s=>by rw [V.size_eq];rfl
 have i: ∀k b n s,k≠5→(V.mk k b n s [] []).ord:=fun k b n s C=>(V.ord_eq _).2 ⟨fun h=>absurd h C,fun _=>rfl,List.Pairwise.nil,fun p I=>by cases I⟩
 have j: ∀k b n s,s.size≤1000000→(V.mk k b n s [] []).sb:=fun k b n s h=>(V.sb_eq _).2 ⟨by show s.size≤_;omega,⟨by simp [V.l],by simp [V.m]⟩,(l4 _).2 (fun x r=>by cases r),(l5 _).2 (fun x r=>by cases r)⟩
 unfold bn;split
 ·exact ⟨i _ _ _ _ (by decide),fun _=>j _ _ _ _ (by decide),g _ _ _ _⟩
 ·split
  ·exact ⟨i _ _ _ _ (by decide),fun _=>j _ _ _ _ (by decide),g _ _ _ _⟩
  ·split
   ·exact ⟨i _ _ _ _ (by decide),fun h=>j _ _ _ _ h,g _ _ _ _⟩
   ·split
    ·exact ⟨i _ _ _ _ (by decide),fun _=>j _ _ _ _ (by decide),g _ _ _ _⟩
    ·exact ⟨i _ _ _ _ (by decide),fun _=>j _ _ _ _ (by decide),g _ _ _ _⟩
def RdL (l:List V):Prop:= ∀x∈l,x.ord∧x.sb
def RdM (m:List (ByteArray×V)):Prop:=Rises m∧ ∀p∈m,p.1.size≤1000000∧p.2.ord∧p.2.sb
def LY:FM→Prop
 | .one _=>True
 | .flow out=>RdL out
 | .braces out=>RdM out
def b9:FM→Nat
 | .one _=>0
 | .flow out=>aO out
 | .braces out=>aF out
theorem gk (l:List V):(iI l).size=1+aO l:=by simp [iI,V.size,aF]
theorem fI:V.null.sb:=(V.sb_eq _).2 ⟨by decide,⟨by simp [V.null,V.l],by simp [V.null,V.m]⟩,(l4 _).2 (fun x g=>by cases g),(l5 _).2 (fun x g=>by cases g)⟩
theorem Hx (s:ByteArray) (h:s.size≤1000000):(V.str s).ord∧(V.str s).sb∧(V.str s).size=1:=
 ⟨(V.ord_eq _).2 ⟨fun h=>absurd h (by simp [V.str,V.kind]),fun _=>rfl,List.Pairwise.nil,fun p i=>by cases i⟩,
  (V.sb_eq _).2 ⟨by show s.size≤_;omega,⟨by simp [V.str,V.l],by simp [V.str,V.m]⟩,(l4 _).2 (fun x g=>by cases g),(l5 _).2 (fun x g=>by cases g)⟩,by rw [V.size_eq];rfl⟩
theorem uR {l:List V} (h:RdL l) (j:aO l≤2000000000000):(iI l).ord∧(iI l).sb:=
 ⟨(V.ord_eq _).2 ⟨fun h=>absurd h (by simp [iI,V.kind]),fun _=>rfl,List.Pairwise.nil,fun p i=>by cases i⟩,
  (V.sb_eq _).2 ⟨by show ByteArray.size ⟨#[]⟩≤_;decide,⟨by show l.length≤_;have:=bW l;omega,by simp [iI,V.m]⟩,(l4 _).2 (fun x g=>(h x g).2),(l5 _).2 (fun x g=>by cases g)⟩⟩
theorem yW {m:List (ByteArray×V)} (h:RdM m) (j:aF m≤2000000000000):(b8 m).ord∧(b8 m).sb:=
 ⟨eh h.1 fun p g=>(h.2 p g).2.1,
  (V.sb_eq _).2 ⟨by show ByteArray.size ⟨#[]⟩≤_;decide,⟨by simp [b8,V.l],by show m.length≤_;have:=bz m;omega⟩,(l4 _).2 (fun x i=>by cases i),(l5 _).2 (fun p g=>⟨by have:=(h.2 p g).1;omega,(h.2 p g).2.2⟩)⟩⟩
theorem RdL.snoc {l:List V} {x:V} (h:RdL l) (g:x.ord) (i:x.sb):RdL (l++ [x]):=by
 intro y hy;rcases gB5 hy with hy|hy
 ·exact h y hy
 ·simp at hy;subst hy;exact ⟨g,i⟩
theorem RdM.put {m:List (ByteArray×V)} {k:ByteArray} {x:V} (h:RdM m) (i:k.size≤1000000) (j:x.ord) (r:x.sb):RdM (ap k x m):=by
 refine ⟨g9 h.1,fun p g=> ?_⟩;rcases lk g with rfl|g
 ·exact ⟨i,j,r⟩
 ·exact h.2 p g
theorem eN (k:ByteArray) (x:V): ∀m:List (ByteArray×V),aF (ap k x m)≤aF m+x.size
 | []=>by simp [ap,aF]
 |(y,z)::m=>by
  have:=eN k x m;rw [ap];split
  ·simp only [aF];omega
  ·split
   ·simp only [aF];omega
   ·simp only [aF];omega
theorem AY {s key rest:Bs} (h:qs s=(key,rest,0)):key.length≤s.length∧rest.length+1≤s.length:=by
 unfold qs at h;split at h
 ·split at h
  ·cases h
  ·rename_i x r p
   have:=gT p;split at h
   ·cases h
   ·rename_i c r'
    simp only [gA3] at this;split at h
    ·cases h;omega
    ·cases h
 ·split at h
  ·cases h
  ·rename_i hi
   split at h
   ·cases h
   ·cases h
    have j:=ia (s.take (Lib.indexByte s 58).toNat);rcases ma s 58 with ⟨g,_⟩|⟨i,g,C,_⟩
    ·exact absurd g hi
    ·rw [g] at j⊢
     simp only [Int.toNat_natCast,gA7,gA6] at j⊢;omega
structure FOk (sz:Nat) (s:Bs) (r:V×Bs×Int):Prop where
 ord:r.1.ord
 sb:r.1.sb
 le:r.2.1.length≤s.length
 fit:r.2.2=0→r.1.size+r.2.1.length≤s.length+sz
 any:r.1.size≤s.length+sz+1
theorem FOk.bad (sz:Nat) (s:Bs) {e:Int} (h:e≠0):FOk sz s (V.null,[],e):=⟨ef,fI,by simp,fun g=>absurd g h,by rw [dg];omega⟩
theorem dJ: ∀(n:Nat) (m:FM) (s:Bs),s.length≤1000000→b9 m+s.length≤1000000000→LY m→FOk (b9 m) s (br n m s)
 |0,m,s,_,_,_=>FOk.bad _ _ (by decide)
 |n+1,.one ends,s,U,I,T=>by
  have hl:=cQ s;unfold br;split
  ·exact FOk.bad _ _ (by decide)
  ·rename_i c t ht
   rw [ht] at hl;simp only [gA3] at hl;have C:=cQ t;split
   ·split
    ·have h:=dJ n (.flow []) [] (by simp) (by simp [b9,aO]) (fun x j=>by cases j)
     exact ⟨h.ord,h.sb,gB7 (show _≤0 from h.le) (gB8 _),fun g=>by have:=h.fit g;simp only [b9,aO,List.length_nil] at this⊢;omega,by have:=h.any;simp only [b9,aO,List.length_nil] at this⊢;omega⟩
    ·rename_i d u P
     rw [P] at C;simp only [gA3] at C;split
     ·have J:=cQ u
      have i:=uR (l:= []) (fun x j=>by cases j) (by simp [aO]);exact ⟨i.1,i.2,by simp only;omega,fun _=>by rw [gk];simp only [aO,b9];omega,by rw [gk];simp only [aO,b9];omega⟩
     ·have h:=dJ n (.flow []) (d::u) (by simp only [gA3];omega) (by simp only [b9,aO,gA3];omega) (fun x j=>by cases j)
      exact ⟨h.ord,h.sb,by have:=h.le;simp only [gA3] at this;omega,fun g=>by have:=h.fit g;simp only [b9,aO,gA3] at this⊢;omega,by have:=h.any;simp only [b9,aO,gA3] at this⊢;omega⟩
   ·split
    ·split
     ·have h:=dJ n (.braces []) [] (by simp) (by simp [b9,aF]) ⟨List.Pairwise.nil,fun x j=>by cases j⟩
      exact ⟨h.ord,h.sb,gB7 (show _≤0 from h.le) (gB8 _),fun g=>by have:=h.fit g;simp only [b9,aF,List.length_nil] at this⊢;omega,by have:=h.any;simp only [b9,aF,List.length_nil] at this⊢;omega⟩
     ·rename_i d u P
      rw [P] at C;simp only [gA3] at C;split
      ·have J:=cQ u
       have i:=yW (m:= []) ⟨List.Pairwise.nil,fun x j=>by cases j⟩ (by simp [aF]);exact ⟨i.1,i.2,by simp only;omega,fun _=>by rw [bS];simp only [aF,b9];omega,by rw [bS];simp only [aF,b9];omega⟩
      ·have h:=dJ n (.braces []) (d::u) (by simp only [gA3];omega) (by simp only [b9,aF,gA3];omega) ⟨List.Pairwise.nil,fun x j=>by cases j⟩
       exact ⟨h.ord,h.sb,by have:=h.le;simp only [gA3] at this;omega,fun g=>by have:=h.fit g;simp only [b9,aF,gA3] at this⊢;omega,by have:=h.any;simp only [b9,aF,gA3] at this⊢;omega⟩
    ·split
     ·split
      ·have h:=Hx ⟨#[]⟩ (by decide)
       exact ⟨h.1,h.2.1,by simp,(fun g=>absurd g (by decide)),(by rw [h.2.2];omega)⟩
      ·rename_i x rest P
       have J:=gT P;simp only [gA3] at J;have i:=cQ rest;have h:=Hx (toB x) (by show x.length≤_;omega);exact ⟨h.1,h.2.1,by simp only;omega,fun _=>by rw [h.2.2];simp only [b9];omega,by rw [h.2.2];omega⟩
     ·split
      ·exact FOk.bad _ _ (by decide)
      ·rename_i hw
       have hne:1≤cz ends (c::t):=by
        rcases Nat.eq_zero_or_pos (cz ends (c::t)) with h0|h0
        ·rw [h0] at hw
         simp [di,tr,Lib.trimRightB] at hw
        ·exact h0
       have hsz:(tr ((c::t).take (cz ends (c::t)))).length≤s.length:=by
        have J:=ia ((c::t).take (cz ends (c::t)));have i:((c::t).take (cz ends (c::t))).length≤(c::t).length:=by rw [gA7];omega
        simp only [gA3] at i;omega
       have h:=FA (toB (tr ((c::t).take (cz ends (c::t)))));exact ⟨h.1,h.2.1 (by show (tr ((c::t).take (cz ends (c::t)))).length≤_;omega),by simp only [gA6,gA3];omega,fun _=>by rw [h.2.2];simp only [b9,gA6,gA3];omega,by rw [h.2.2];omega⟩
 |n+1,.flow out,s,U,I,T=>by
  have h:=dJ n (.one [44,93]) s U (by simp only [b9] at I⊢;omega) trivial;unfold br;split;rename_i v rest e hr;rw [hr] at h;split
  ·rename_i g;exact FOk.bad _ _ g
  ·rename_i g
   have g:e=0:=by simpa using g
   have R:=h.fit g;simp only [b9] at R I;have p:RdL (out++ [v]):=RdL.snoc T h.ord h.sb;have hsz:aO (out++ [v])=aO out+v.size:=by rw [cr];simp [aO]
   split
   ·exact FOk.bad _ _ (by decide)
   ·rename_i c u
    simp only [gA3] at R;split
    ·have J:=cQ u
     have i:=uR p (by omega);exact ⟨i.1,i.2,by simp only;omega,fun _=>by rw [gk,hsz];simp only [b9];omega,by rw [gk,hsz];simp only [b9];omega⟩
    ·split
     ·have r:=dJ n (.flow (out++ [v])) u (by omega) (by simp only [b9,hsz];omega) p
      exact ⟨r.ord,r.sb,by have:=r.le;omega,fun g=>by have:=r.fit g;simp only [b9,hsz] at this⊢;omega,by have:=r.any;simp only [b9,hsz] at this⊢;omega⟩
     ·exact FOk.bad _ _ (by decide)
 |n+1,.braces out,s,U,I,T=>by
  have hl:=cQ s;unfold br;split;rename_i key rest k hk;split
  ·rename_i g;exact FOk.bad _ _ g
  ·rename_i g
   have g:k=0:=by simpa using g
   subst g;obtain ⟨k1,k2⟩:=AY hk;split
   ·exact FOk.bad _ _ (by decide)
   ·have h:=dJ n (.one [44,125]) rest (by omega) (by simp only [b9] at I⊢;omega) trivial
    split;rename_i v more e hr;rw [hr] at h;split
    ·rename_i g;exact FOk.bad _ _ g
    ·rename_i g
     have g:e=0:=by simpa using g
     have R:=h.fit g;simp only [b9] at R I;have p:RdM (ap (toB key) v out):=RdM.put T (by show key.length≤_;omega) h.ord h.sb;have hsz:=eN (toB key) v out;split
     ·exact FOk.bad _ _ (by decide)
     ·rename_i c u
      simp only [gA3] at R;split
      ·have J:=cQ u
       have i:=yW p (by omega);exact ⟨i.1,i.2,by simp only;omega,fun _=>by rw [bS];simp only [b9];omega,by rw [bS];simp only [b9];omega⟩
      ·split
       ·have r:=dJ n (.braces (ap (toB key) v out)) u (by omega) (by simp only [b9];omega) p
        exact ⟨r.ord,r.sb,by have:=r.le;omega,fun g=>by have:=r.fit g;simp only [b9] at this⊢;omega,by have:=r.any;simp only [b9] at this⊢;omega⟩
       ·exact FOk.bad _ _ (by decide)
theorem FB (s:Bs) (g:s.length≤1000000):(mb s).1.ord∧(mb s).1.sb∧(mb s).1.size≤s.length+1:=by
 have h:=dJ (2*s.length+1) (.one []) s g (by simp only [b9];omega) trivial;unfold mb;split;rename_i v rest e hr;rw [hr] at h;split
 ·exact ⟨ef,fI,by rw [dg];omega⟩
 ·split
  ·exact ⟨ef,fI,by rw [dg];omega⟩
  ·exact ⟨h.ord,h.sb,by have:=h.any;simp only [b9] at this;omega⟩
end
section
open Go.RowKit
theorem xB {s key rest:Bs} (h:cP s=some (key,rest)):key.length≤s.length∧rest.length≤s.length:=by
 unfold cP at h;split at h
 ·split at h
  ·cases h
  ·rename_i x r j
   have:=gT j;split at h
   ·cases h
   ·rename_i c r'
    simp only [gA3] at this;split at h
    ·split at h
     ·cases h;simp;omega
     ·rename_i d p
      have g:=cQ (d::p);simp only [gA3] at this g;split at h
      ·cases h;omega
      ·cases h
    ·cases h
 ·split at h
  ·split at h
   ·split at h
    ·cases h
    ·cases h
     have i:=ia (s.take (s.length-1));rw [gA7] at i;simp;omega
   ·cases h
  ·split at h
   ·cases h
   ·cases h
    have i:=ia (s.take (Lib.index s [58,32]).toNat);have g:=cQ (s.drop ((Lib.index s [58,32]).toNat+1));rw [gA7] at i;rw [gA6] at g;omega
structure YInv (st:YR):Prop where
 at_:st.at_≤st.l.length
 len:st.l.length≤1000000
 ln: ∀x∈st.l,x.1+x.2.length≤1000000
def LZ:YM→Prop
 | .block=>True
 | .below=>True
 | .list out=>RdL out
 | .pairs out=>RdM out
def dG:YM→Nat
 | .block=>0
 | .below=>0
 | .list out=>aO out
 | .pairs out=>aF out
theorem YR.w_at {st:YR} {x:Nat×Bs} (h:st.l[st.at_]? =some x):st.w=x.2.length+1+(YR.mk st.l (st.at_+1) st.bad).w:=by
 unfold YR.w wAt;rw [ju h,List.map_cons,List.sum_cons]
theorem YR.w_set {st:YR} {x y:Nat×Bs} (h:st.l[st.at_]? =some x):(YR.mk (st.l.set st.at_ y) st.at_ st.bad).w=y.2.length+1+(YR.mk st.l (st.at_+1) st.bad).w:=by
 have hl:=(gA0 h).1;unfold YR.w wAt;simp only;rw [ju (x:=y) (by rw [List.getElem?_set_self hl]),List.map_cons,List.sum_cons,List.drop_set_of_lt (by omega)]
theorem YR.w_fail (st:YR) (e:Int):(st.fail e).w=0:=by unfold YR.w YR.fail wAt;simp
theorem YInv.fail {st:YR} (h:YInv st) (e:Int):YInv (st.fail e):=⟨gA4 _,h.len,h.ln⟩
theorem YInv.next {st:YR} (h:YInv st) {x:Nat×Bs} (g:st.l[st.at_]? =some x):YInv ⟨st.l,st.at_+1,st.bad⟩:=⟨(gA0 g).1,h.len,h.ln⟩
theorem YInv.set {st:YR} (h:YInv st) {y:Nat×Bs} (hy:y.1+y.2.length≤1000000):YInv ⟨st.l.set st.at_ y,st.at_,st.bad⟩:=by
 refine ⟨by simpa using h.at_,by simpa using h.len,fun x g=> ?_⟩;rcases List.mem_or_eq_of_mem_set g with g|rfl
 ·exact h.ln x g
 ·exact hy
structure ROk (sz:Nat) (st:YR) (r:V×YR):Prop where
 ord:r.1.ord
 sb:r.1.sb
 inv:YInv r.2
 len:r.2.l.length=st.l.length
 w:r.2.w≤st.w
 fit:r.1.size+r.2.w≤st.w+1+sz
theorem ROk.failed {st st1:YR} (h:YInv st1) (hl:st1.l.length=st.l.length) (sz:Nat) (e:Int):ROk sz st (V.null,st1.fail e):=
 ⟨ef,fI,h.fail e,hl,by rw [YR.w_fail];omega,by rw [YR.w_fail,dg];omega⟩
theorem Db {st:YR} (h:YInv st) {s:Bs} (g:s.length≤1000000):(kh s st).1.ord∧(kh s st).1.sb∧YInv (kh s st).2∧(kh s st).2.l.length=st.l.length∧(kh s st).2.w≤st.w∧(kh s st).1.size≤s.length+1:=by
 have hi:=FB s g;unfold kh;split;rename_i v e i;rw [i] at hi;split
 ·exact ⟨ef,fI,h.fail e,rfl,by rw [YR.w_fail];omega,by rw [dg];omega⟩
 ·exact ⟨hi.1,hi.2.1,h,rfl,gA4 _,hi.2.2⟩
theorem AZ {s:Bs} (h:dq s=true):(tl (s.drop 1)).length+1≤s.length:=by
 have g:=cQ (s.drop 1)
 have i:1≤s.length:=by
  cases s with
  |nil=>simp [dq] at h
  |cons c l=>simp
 rw [gA6] at g;omega
theorem dK: ∀(n:Nat) (m:YM) (i:Nat) (st:YR),YInv st→st.w+dG m≤1000000000→LZ m→ROk (dG m) st (aZ n m i st)
 |0,m,i,st,h,_,_=>⟨ef,fI,h,rfl,gA4 _,by show V.null.size+st.w≤_;rw [dg];omega⟩
 |n+1,.block,i,st,h,hw,_=>by
  unfold aZ;split
  ·exact ⟨ef,fI,h,rfl,gA4 _,by show V.null.size+st.w≤_;rw [dg];omega⟩
  ·rename_i j text p
   have J:=h.ln _ (gA2 p);have P:=YR.w_at p;simp only at J P
   have key:ROk 0 st (if dq text=true then aZ n (.list []) i st else if (cP text).isSome=true then aZ n (.pairs []) i st else kh text ⟨st.l,st.at_+1,st.bad⟩):=by
    split
    ·exact dK n (.list []) i st h (by simp only [dG,aO] at hw⊢;omega) (fun x p=>by cases p)
    ·split
     ·exact dK n (.pairs []) i st h (by simp only [dG,aF] at hw⊢;omega) ⟨List.Pairwise.nil,fun x p=>by cases p⟩
     ·obtain ⟨C,k2,k3,k4,k5,k6⟩:=Db (h.next p) (s:=text) (by omega)
      exact ⟨C,k2,k3,k4,by omega,by omega⟩
   split;rename_i v st1 hr;rw [hr] at key;split
   ·exact ROk.failed key.inv key.len _ _
   ·exact key
 |n+1,.below,i,st,h,hw,_=>by
  unfold aZ;split
  ·exact ⟨ef,fI,h,rfl,gA4 _,by show V.null.size+st.w≤_;rw [dg];omega⟩
  ·rename_i j t p
   split
   ·exact dK n .block j st h hw trivial
   ·exact ⟨ef,fI,h,rfl,gA4 _,by show V.null.size+st.w≤_;rw [dg];omega⟩
 |n+1,.list out,i,st,h,hw,hm=>by
  have r:ROk (dG (.list out)) st (iI out,st):=by
   have h1:=uR hm (by simp only [dG] at hw;omega);exact ⟨h1.1,h1.2,h,rfl,gA4 _,by rw [gk];simp only [dG];omega⟩
  unfold aZ;split
  ·exact r
  ·rename_i j text p
   have J:=h.ln _ (gA2 p);have P:=YR.w_at p;simp only at J P;split
   ·rename_i hc
    obtain ⟨rfl,hit⟩:=hc;have hil:=AZ hit;simp only [dG] at hw
    have go: ∀v st1,ROk 0 st (v,st1)→v.size+st1.w≤st.w→ROk (dG (.list out)) st (aZ n (.list (out++ [v])) j st1):=fun v st1 C k2=>by
     have hsz:aO (out++ [v])=aO out+v.size:=by rw [cr];simp [aO]
     have R:=C.inv;have T:=C.len;have U:=C.w;simp only at R T U;have I:=dK n (.list (out++ [v])) j st1 R (by simp only [dG,hsz];omega) (hm.snoc C.ord C.sb);exact ⟨I.ord,I.sb,I.inv,I.len.trans T,gB7 I.w U,by have:=I.fit;simp only [dG,hsz] at this⊢;omega⟩
    split
    ·have g:=dK n .below j ⟨st.l,st.at_+1,st.bad⟩ (h.next p) (by simp only [dG];omega) trivial
     split;rename_i v st1 hr;rw [hr] at g;have f:=g.fit;have w:=g.w;simp only [dG] at f w;exact go v st1 ⟨g.ord,g.sb,g.inv,g.len,by simp only;omega,by simp only;omega⟩ (by omega)
    ·have hset:=YR.w_set (st:=st) (y:=(j+text.length-(tl (text.drop 1)).length,tl (text.drop 1))) p
     simp only at hset;have g:=dK n .block (j+text.length-(tl (text.drop 1)).length) ⟨st.l.set st.at_ (j+text.length-(tl (text.drop 1)).length,tl (text.drop 1)),st.at_,st.bad⟩ (h.set (by simp only;omega)) (by simp only [dG];omega) trivial;split;rename_i v st1 hr;rw [hr] at g;have f:=g.fit;have w:=g.w;have l:=g.len;simp only [dG] at f w l;rw [List.length_set] at l;exact go v st1 ⟨g.ord,g.sb,g.inv,l,by simp only;omega,by simp only;omega⟩ (by omega)
   ·exact r
 |n+1,.pairs out,i,st,h,hw,hm=>by
  have r:ROk (dG (.pairs out)) st (b8 out,st):=by
   have h1:=yW hm (by simp only [dG] at hw;omega);exact ⟨h1.1,h1.2,h,rfl,gA4 _,by rw [bS];simp only [dG];omega⟩
  unfold aZ;split
  ·exact r
  ·rename_i j text p
   have J:=h.ln _ (gA2 p);have P:=YR.w_at p;simp only at J P;split
   ·rename_i hj
    subst hj;split
    ·exact ROk.failed h rfl _ _
    ·split
     ·exact ROk.failed h rfl _ _
     ·rename_i key rest hsp
      obtain ⟨z1,z2⟩:=xB hsp;split
      ·exact ROk.failed h rfl _ _
      ·simp only [dG] at hw
       have go: ∀v st1,ROk 0 st (v,st1)→v.size+st1.w≤st.w→ROk (dG (.pairs out)) st (aZ n (.pairs (ap (toB key) v out)) j st1):=fun v st1 C k2=>by
        have hsz:=eN (toB key) v out;have R:=C.inv;have T:=C.len;have U:=C.w;simp only at R T U;have I:=dK n (.pairs (ap (toB key) v out)) j st1 R (by simp only [dG];omega) (hm.put (by show key.length≤_;omega) C.ord C.sb);exact ⟨I.ord,I.sb,I.inv,I.len.trans T,gB7 I.w U,by have:=I.fit;simp only [dG] at this⊢;omega⟩
       have key2:ROk 0 st (if rest= [] then aZ n .below j ⟨st.l,st.at_+1,st.bad⟩ else kh rest ⟨st.l,st.at_+1,st.bad⟩)∧(if rest= [] then aZ n .below j ⟨st.l,st.at_+1,st.bad⟩ else kh rest ⟨st.l,st.at_+1,st.bad⟩).1.size+(if rest= [] then aZ n .below j ⟨st.l,st.at_+1,st.bad⟩ else kh rest ⟨st.l,st.at_+1,st.bad⟩).2.w≤st.w:=by
        split
        ·have g:=dK n .below j ⟨st.l,st.at_+1,st.bad⟩ (h.next p) (by simp only [dG];omega) trivial
         have f:=g.fit;have w:=g.w;simp only [dG] at f w;exact ⟨⟨g.ord,g.sb,g.inv,g.len,by omega,by omega⟩,by omega⟩
        ·obtain ⟨C,k2,k3,k4,k5,k6⟩:=Db (h.next p) (s:=rest) (by omega)
         exact ⟨⟨C,k2,k3,k4,by omega,by omega⟩,by omega⟩
       split;rename_i v st1 hr;rw [hr] at key2;exact go v st1 key2.1 key2.2
   ·exact r
end
section
set_option maxRecDepth 100000
set_option maxHeartbeats 20000000
def aS:List Nat:= [2000048,2000148,2000092,2000093,2000047,2000094,2000046]
noncomputable def yX:ACode:=bK Tryz.prog aS Tryz.f142
noncomputable def yY:AFn:=⟨2,27,yX,[.tmp 4]⟩
theorem ke:ar Tryz.prog aS Tryz.f142=some yY:=kk
theorem kf:ab Tryz.prog 142=true:=kk
noncomputable def A0:ACode:=bK Tryz.prog aS Tryz.f88
noncomputable def A3:AFn:=⟨1,54,A0,[.tmp 2]⟩
theorem uS:ar Tryz.prog aS Tryz.f88=some A3:=kk
theorem uT:ab Tryz.prog 88=true:=kk
noncomputable def A4:ACode:=bK Tryz.prog aS Tryz.f91
noncomputable def A5:AFn:=⟨1,9,A4,[.tmp 2]⟩
theorem uU:ar Tryz.prog aS Tryz.f91=some A5:=kk
theorem uV:ab Tryz.prog 91=true:=kk
noncomputable def Dc:ACode:=bK Tryz.prog aS Tryz.f146
noncomputable def Dd:AFn:=⟨1,11,Dc,[.tmp 2]⟩
theorem nf:ar Tryz.prog aS Tryz.f146=some Dd:=kk
theorem nh:ab Tryz.prog 146=true:=kk
noncomputable def yZ:ACode:=bK Tryz.prog aS Tryz.f90
noncomputable def y0:AFn:=⟨1,74,yZ,[.tmp 2,.tmp 3,.tmp 4]⟩
theorem sw:ar Tryz.prog aS Tryz.f90=some y0:=kk
theorem sy:ab Tryz.prog 90=true:=kk
noncomputable def De:ACode:=bK Tryz.prog aS Tryz.f149
noncomputable def Df:AFn:=⟨2,105,De,[.cell 4 6 true,.tmp 5,.tmp 6]⟩
theorem wn:ar Tryz.prog aS Tryz.f149=some Df:=kk
theorem wo:ab Tryz.prog 149=true:=kk
noncomputable def A6:ACode:=bK Tryz.prog aS Tryz.f201
noncomputable def A7:AFn:=⟨1,48,A6,[.cell 2 6 true,.tmp 3,.tmp 4]⟩
theorem uW:ar Tryz.prog aS Tryz.f201=some A7:=kk
theorem uX:ab Tryz.prog 201=true:=kk
noncomputable def wq:ACode:=bK Tryz.prog aS Tryz.f202
noncomputable def ws:AFn:=⟨1,118,wq,[.cell 2 6 true,.tmp 3,.tmp 4]⟩
theorem qt:ar Tryz.prog aS Tryz.f202=some ws:=kk
theorem qu:ab Tryz.prog 202=true:=kk
noncomputable def jD:ACode:=bK Tryz.prog aS Tryz.f46
noncomputable def pn:AFn:=⟨1,37,jD,[.tmp 2,.tmp 3]⟩
theorem fm:ar Tryz.prog aS Tryz.f46=some pn:=kk
theorem fq:ab Tryz.prog 46=true:=kk
noncomputable def dP:ACode:=bK Tryz.prog aS Tryz.f48
noncomputable def nT:AFn:=⟨2,23,dP,[.cell 4 6 true]⟩
theorem ki:ar Tryz.prog aS Tryz.f48=some nT:=kk
theorem kj:ab Tryz.prog 48=true:=kk
noncomputable def dt:ACode:=bK Tryz.prog aS Tryz.f148
noncomputable def mz:AFn:=⟨2,44,dt,[.cell 4 6 true]⟩
theorem jE:ar Tryz.prog aS Tryz.f148=some mz:=kk
theorem jF:ab Tryz.prog 148=true:=kk
noncomputable def dQ:ACode:=bK Tryz.prog aS Tryz.f92
noncomputable def nU:AFn:=⟨2,116,dQ,[.cell 4 6 true]⟩
theorem kl:ar Tryz.prog aS Tryz.f92=some nU:=kk
theorem km:ab Tryz.prog 92=true:=kk
noncomputable def du:ACode:=bK Tryz.prog aS Tryz.f93
noncomputable def mA:AFn:=⟨2,102,du,[.cell 4 6 true]⟩
theorem jG:ar Tryz.prog aS Tryz.f93=some mA:=kk
theorem jH:ab Tryz.prog 93=true:=kk
noncomputable def dv:ACode:=bK Tryz.prog aS Tryz.f47
noncomputable def mD:AFn:=⟨2,76,dv,[.cell 4 6 true]⟩
theorem jI:ar Tryz.prog aS Tryz.f47=some mD:=kk
theorem jJ:ab Tryz.prog 47=true:=kk
noncomputable def cR:ACode:=bK Tryz.prog aS Tryz.f94
noncomputable def lu:AFn:=⟨2,26,cR,[.cell 4 6 true]⟩
theorem iJ:ar Tryz.prog aS Tryz.f94=some lu:=kk
theorem iK:ab Tryz.prog 94=true:=kk
noncomputable def y1:ACode:=bK Tryz.prog aS Tryz.f13
noncomputable def y2:AFn:=⟨1,68,y1,[.cell 2 6 true,.tmp 3]⟩
theorem sA:ar Tryz.prog aS Tryz.f13=some y2:=kk
theorem sB:ab Tryz.prog 13=true:=kk
end
end Go.Proofs.YtbgflifmanjpjaaGreatDoor
