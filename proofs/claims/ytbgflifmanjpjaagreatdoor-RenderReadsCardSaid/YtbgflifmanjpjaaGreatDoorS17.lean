/- Part 17. -/
import Derived.Test.YtbgflifmanjpjaaGreatDoorS16
import Derived.Lib.TrimByte
import Derived.Lib.IndexMore
set_option linter.unusedSimpArgs false
set_option linter.unusedVariables false
namespace Go.Proofs.YtbgflifmanjpjaaGreatDoor
section
open Go.RowKit
abbrev Bs:=List UInt8
def toB (l:Bs):ByteArray:=⟨l.toArray⟩
def jg (l:List V):V:= .mk 4 false 0 ⟨#[]⟩ l []
def tl (l:Bs):Bs:=Lib.trimLeftB l 32
def tr (l:Bs):Bs:=Lib.trimRightB l 32
def isQ (c:UInt8):Bool:=c==34||c==39
def lU:Bs→Option (Bs×Bs)
 | []=>none
 |c::l=>if c=34 then dbl l [] else if c=39 then sgl l [] else none
theorem Ao (s:ByteArray):unq s=lU s.data.toList:=rfl
def pU (s:Bs) (i:Nat):Option UInt8:=if i=0 then none else s[i-1]?
def Jw:Option UInt8→Bool
 |none=>true
 |some q=>q==32
def F7:Option UInt8→Bool
 |none=>true
 |some q=>q==32||q==91||q==123||q==44
def sC (s:Bs):Nat→Nat→Nat
 |0,_=>s.length
 |n+1,i=>match s.drop i with
  | []=>s.length
  |c::t=>if (c==35&&Jw (pU s i))=true then i else if (isQ c&&F7 (pU s i))=true then (match lU (c::t) with
   |none=>s.length
   |some (_,rest)=>sC s n (s.length-rest.length))
   else sC s n (i+1)
def cP (s:Bs):Bs:=s.take (sC s (s.length+1) 0)
def gf (x:Bs):Option (Option (Nat×Bs)):=
 match tl (tr (cP x)) with
 | []=>some none
 |c::t=>if c=9 then none else some (some ((tr (cP x)).length-(c::t).length,c::t))
def bJ:List Bs→Option (List (Nat×Bs))
 | []=>some []
 |x::l=>match gf x with
  |none=>none
  |some o=>match bJ l with
   |none=>none
   |some r=>some (o.toList++r)
def dH (s:Bs):Bool:=s== [45]|| [45,32].isPrefixOf s
def N8 (c:UInt8):Bool:=([91,93,123,125,44,38,42,33,124,62,37,64,35,63,58,34,39,96]:Bs).contains c
def tG:Bs→Bool
 | []=>false
 |c::_=>N8 c
def Ap:Bs→Bool
 | []=>false
 |c::_=>isQ c
def dj (s:Bs):Option (Bs×Bs):=
 if Ap s=true then (match lU s with
  |none=>none
  |some (key,rest)=>match rest with
   | []=>none
   |c::r=>if c=58 then (match r with
    | []=>some (key,[])
    |d::_=>if d=32 then some (key,tl r) else none) else none)
 else if Lib.index s [58,32]<0 then
  (if Lib.hasSuffix s [58]=true then (if tr (s.take (s.length-1))= []∨tG (tr (s.take (s.length-1)))=true then none else some (tr (s.take (s.length-1)),[])) else none)
 else if tr (s.take (Lib.index s [58,32]).toNat)= []∨tG (tr (s.take (Lib.index s [58,32]).toNat))=true then none
 else some (tr (s.take (Lib.index s [58,32]).toNat),tl (s.drop ((Lib.index s [58,32]).toNat+1)))
inductive FM where
 |one (ends:Bs)
 |flow (out:List V)
 |braces (out:List (ByteArray×V))
def dB (w:Bs):Bool:=w.isEmpty||tG w||decide (0≤Lib.index w [58,32])||Lib.hasSuffix w [58]
def ra (s:Bs):Bs×Bs×Int:=
 if Ap s=true then (match lU s with
  |none=>([],[],11)
  |some (key,rest)=>match rest with
   | []=>([],[],10)
   |c::r=>if c=58 then (key,r,0) else ([],[],10))
 else if Lib.indexByte s 58= -1 then ([],[],10)
 else if ((tr (s.take (Lib.indexByte s 58).toNat)).isEmpty||tG (tr (s.take (Lib.indexByte s 58).toNat))||(tr (s.take (Lib.indexByte s 58).toNat)).contains 44||(tr (s.take (Lib.indexByte s 58).toNat)).contains 93||(tr (s.take (Lib.indexByte s 58).toNat)).contains 125)=true then ([],[],10)
 else (tr (s.take (Lib.indexByte s 58).toNat),s.drop ((Lib.indexByte s 58).toNat+1),0)
def cQ (ends s:Bs):Nat:=if ends= [] then s.length else (s.takeWhile fun c=> !ends.contains c).length
def bD:Nat→FM→Bs→V×Bs×Int
 |0,_,_=>(V.null,[],10)
 |n+1,.one ends,s=>match tl s with
  | []=>(V.null,[],10)
  |c::t=>if c=91 then (match tl t with
   | []=>bD n (.flow []) []
   |d::u=>if d=93 then (jg [],tl u,0) else bD n (.flow []) (d::u))
   else if c=123 then (match tl t with
    | []=>bD n (.braces []) []
    |d::u=>if d=125 then (bP [],tl u,0) else bD n (.braces []) (d::u))
   else if isQ c=true then (match lU (c::t) with
    |none=>(V.str ⟨#[]⟩,[],11)
    |some (x,rest)=>(V.str (toB x),tl rest,0))
   else if dB (tr ((c::t).take (cQ ends (c::t))))=true then (V.null,[],10)
   else ((bw (toB (tr ((c::t).take (cQ ends (c::t)))))).1,(c::t).drop (cQ ends (c::t)),(bw (toB (tr ((c::t).take (cQ ends (c::t)))))).2)
 |n+1,.flow out,s=>match bD n (.one [44,93]) s with
  |(v,rest,e)=>if e≠0 then (V.null,[],e) else match rest with
   | []=>(V.null,[],10)
   |c::u=>if c=93 then (jg (out++ [v]),tl u,0) else if c=44 then bD n (.flow (out++ [v])) u else (V.null,[],10)
 |n+1,.braces out,s=>match ra (tl s) with
  |(key,rest,k)=>if k≠0 then (V.null,[],k) else if (aU (toB key) out).isSome=true then (V.null,[],13) else match bD n (.one [44,125]) rest with
   |(v,more,e)=>if e≠0 then (V.null,[],e) else match more with
    | []=>(V.null,[],10)
    |c::u=>if c=125 then (bP (ap (toB key) v out),tl u,0) else if c=44 then bD n (.braces (ap (toB key) v out)) u else (V.null,[],10)
def mH (s:Bs):V×Int:=match bD (2*s.length+1) (.one []) s with
 |(v,rest,e)=>if e≠0 then (V.null,e) else if rest≠ [] then (V.null,10) else (v,0)
structure YR where
 l:List (Nat×Bs)
 at_:Nat
 bad:Int
def YR.fail (st:YR) (e:Int):YR:=⟨st.l,st.l.length,if st.bad=0 then e else st.bad⟩
inductive YM where
 |block
 |below
 |list (out:List V)
 |pairs (out:List (ByteArray×V))
def lg (s:Bs) (st:YR):V×YR:=match mH s with
 |(v,e)=>if e≠0 then (V.null,st.fail e) else (v,st)
def YR.deep (st:YR) (i:Nat):Bool:=match st.l[st.at_]? with
 |some (j,_)=>decide (i<j)
 |none=>false
def a8:Nat→YM→Nat→YR→V×YR
 |0,_,_,st=>(V.null,st)
 |n+1,.block,i,st=>match st.l[st.at_]? with
  |none=>(V.null,st)
  |some (_,text)=>match (if dH text=true then a8 n (.list []) i st else if (dj text).isSome=true then a8 n (.pairs []) i st else lg text ⟨st.l,st.at_+1,st.bad⟩) with
   |(v,st1)=>if st1.deep i=true then (V.null,st1.fail 12) else (v,st1)
 |n+1,.below,i,st=>match st.l[st.at_]? with
  |none=>(V.null,st)
  |some (j,_)=>if i<j then a8 n .block j st else (V.null,st)
 |n+1,.list out,i,st=>match st.l[st.at_]? with
  |none=>(jg out,st)
  |some (j,text)=>if j=i∧dH text=true then
   (if tl (text.drop 1)= [] then (match a8 n .below i ⟨st.l,st.at_+1,st.bad⟩ with
    |(v,st1)=>a8 n (.list (out++ [v])) i st1)
   else (match a8 n .block (i+text.length-(tl (text.drop 1)).length) ⟨st.l.set st.at_ (i+text.length-(tl (text.drop 1)).length,tl (text.drop 1)),st.at_,st.bad⟩ with
    |(v,st1)=>a8 n (.list (out++ [v])) i st1))
   else (jg out,st)
 |n+1,.pairs out,i,st=>match st.l[st.at_]? with
  |none=>(bP out,st)
  |some (j,text)=>if j=i then (if dH text=true then (V.null,st.fail 10) else match dj text with
   |none=>(V.null,st.fail 10)
   |some (key,rest)=>if (aU (toB key) out).isSome=true then (V.null,st.fail 13) else match (if rest= [] then a8 n .below i ⟨st.l,st.at_+1,st.bad⟩ else lg rest ⟨st.l,st.at_+1,st.bad⟩) with
    |(v,st1)=>a8 n (.pairs (ap (toB key) v out)) i st1)
   else (bP out,st)
def wAt (l:List (Nat×Bs)):Nat:=(l.map fun x=>x.2.length+1).sum
def YR.w (st:YR):Nat:=wAt (st.l.drop st.at_)
def Eu (g:List (Nat×Bs)):V×Int:=match g with
 | []=>(V.null,0)
 |(i,_)::_=>match a8 (3*wAt g+3) .block i ⟨g,0,0⟩ with
  |(v,st)=>if st.bad≠0 then (V.null,st.bad) else if st.at_<g.length then (V.null,10) else if v.checkC≠0 then (V.null,v.checkC) else (v,0)
def aY (s:ByteArray):V×Int:=if 65536<s.size then (V.null,6) else match bJ ((cj 10 s).map fun x=>x.data.toList) with
 |none=>(V.null,12)
 |some g=>Eu g
end
section
open Go.RowKit
theorem dl (l:Bs):(tl l).length≤l.length:=(List.dropWhile_sublist _).length_le
theorem iI (l:Bs):(tr l).length≤l.length:=by
 unfold tr Lib.trimRightB;have:=(List.dropWhile_sublist (p:=(· ==(32:UInt8))) (l:=l.reverse)).length_le;simpa using this
theorem Lf: ∀(n:Nat) (l out x r:Bs),l.length≤n→dbl l out=some (x,r)→x.length+r.length+1≤out.length+l.length:=by
 intro n
 induction n with
 |zero=>
  intro l out x r hl h;have:l= []:=List.eq_nil_of_length_eq_zero (by omega);subst this;simp [dbl] at h
 |succ n ih=>
  intro l out x r hl h;cases l with
  |nil=>simp [dbl] at h
  |cons c l=>
   rw [Cc] at h;simp only [gA3] at hl⊢;split at h
   ·cases h;omega
   ·split at h
    ·cases l with
     |nil=>cases h
     |cons d l=>
      simp only [gA3] at hl⊢;simp only at h;split at h
      ·have:=ih l _ x r (by omega) h;simp at this;omega
      ·split at h
       ·have:=ih l _ x r (by omega) h;simp at this;omega
       ·split at h
        ·have:=ih l _ x r (by omega) h;simp at this;omega
        ·cases h
    ·split at h
     ·cases h
     ·have:=ih l _ x r (by omega) h;simp at this;omega
theorem Lg: ∀(n:Nat) (l out x r:Bs),l.length≤n→sgl l out=some (x,r)→x.length+r.length+1≤out.length+l.length:=by
 intro n
 induction n with
 |zero=>
  intro l out x r hl h;have:l= []:=List.eq_nil_of_length_eq_zero (by omega);subst this;simp [sgl] at h
 |succ n ih=>
  intro l out x r hl h;cases l with
  |nil=>simp [sgl] at h
  |cons c l=>
   rw [Cd] at h;simp only [gA3] at hl⊢;split at h
   ·cases l with
    |nil=>cases h;simp
    |cons d l=>
     simp only [gA3] at hl⊢;simp only at h;split at h
     ·have:=ih l _ x r (by omega) h;simp at this;omega
     ·cases h;simp only [gA3];omega
   ·have:=ih l _ x r (by omega) h;simp at this;omega
theorem ir {l x r:Bs} (h:lU l=some (x,r)):x.length+r.length+2≤l.length:=by
 cases l with
 |nil=>cases h
 |cons c l=>
  simp only [lU] at h;simp only [gA3];split at h
  ·have:=Lf _ l _ x r (gA4 _) h;simp at this;omega
  ·split at h
   ·have:=Lg _ l _ x r (gA4 _) h;simp at this;omega
   ·cases h
theorem Ho (s:ByteArray):(bw s).1.ord∧(s.size≤1000000→(bw s).1.sb)∧(bw s).1.size=1:=by
 have g: ∀k b n s,(V.mk k b n s [] []).size=1:=fun k b n s=>by rw [V.size_eq];rfl
 have i: ∀k b n s,k≠5→(V.mk k b n s [] []).ord:=fun k b n s C=>(V.ord_eq _).2 ⟨fun h=>absurd h C,fun _=>rfl,List.Pairwise.nil,fun p I=>by cases I⟩
 have j: ∀k b n s,s.size≤1000000→(V.mk k b n s [] []).sb:=fun k b n s h=>(V.sb_eq _).2 ⟨by show s.size≤_;omega,⟨by simp [V.l],by simp [V.m]⟩,(jV _).2 (fun x r=>by cases r),(jW _).2 (fun x r=>by cases r)⟩
 unfold bw;split
 ·exact ⟨i _ _ _ _ (by decide),fun _=>j _ _ _ _ (by decide),g _ _ _ _⟩
 ·split
  ·exact ⟨i _ _ _ _ (by decide),fun _=>j _ _ _ _ (by decide),g _ _ _ _⟩
  ·split
   ·exact ⟨i _ _ _ _ (by decide),fun h=>j _ _ _ _ h,g _ _ _ _⟩
   ·split
    ·exact ⟨i _ _ _ _ (by decide),fun _=>j _ _ _ _ (by decide),g _ _ _ _⟩
    ·exact ⟨i _ _ _ _ (by decide),fun _=>j _ _ _ _ (by decide),g _ _ _ _⟩
def RdL (l:List V):Prop:= ∀x∈l,x.ord∧x.sb
def RdM (m:List (ByteArray×V)):Prop:=Rises m∧ ∀p∈m,p.1.size≤1000000∧p.2.ord∧p.2.sb
def N9:FM→Prop
 | .one _=>True
 | .flow out=>RdL out
 | .braces out=>RdM out
def cu:FM→Nat
 | .one _=>0
 | .flow out=>aK out
 | .braces out=>aA out
theorem gL (l:List V):(jg l).size=1+aK l:=by simp [jg,V.size,aA]
theorem gg:V.null.sb:=(V.sb_eq _).2 ⟨by decide,⟨by simp [V.null,V.l],by simp [V.null,V.m]⟩,(jV _).2 (fun x g=>by cases g),(jW _).2 (fun x g=>by cases g)⟩
theorem Jx (s:ByteArray) (h:s.size≤1000000):(V.str s).ord∧(V.str s).sb∧(V.str s).size=1:=
 ⟨(V.ord_eq _).2 ⟨fun h=>absurd h (by simp [V.str,V.kind]),fun _=>rfl,List.Pairwise.nil,fun p i=>by cases i⟩,
  (V.sb_eq _).2 ⟨by show s.size≤_;omega,⟨by simp [V.str,V.l],by simp [V.str,V.m]⟩,(jV _).2 (fun x g=>by cases g),(jW _).2 (fun x g=>by cases g)⟩,by rw [V.size_eq];rfl⟩
theorem wd {l:List V} (h:RdL l) (j:aK l≤2000000000000):(jg l).ord∧(jg l).sb:=
 ⟨(V.ord_eq _).2 ⟨fun h=>absurd h (by simp [jg,V.kind]),fun _=>rfl,List.Pairwise.nil,fun p i=>by cases i⟩,
  (V.sb_eq _).2 ⟨by show ByteArray.size ⟨#[]⟩≤_;decide,⟨by show l.length≤_;have:=br l;omega,by simp [jg,V.m]⟩,(jV _).2 (fun x g=>(h x g).2),(jW _).2 (fun x g=>by cases g)⟩⟩
theorem Aq {m:List (ByteArray×V)} (h:RdM m) (j:aA m≤2000000000000):(bP m).ord∧(bP m).sb:=
 ⟨fD h.1 fun p g=>(h.2 p g).2.1,
  (V.sb_eq _).2 ⟨by show ByteArray.size ⟨#[]⟩≤_;decide,⟨by simp [bP,V.l],by show m.length≤_;have:=aZ m;omega⟩,(jV _).2 (fun x i=>by cases i),(jW _).2 (fun p g=>⟨by have:=(h.2 p g).1;omega,(h.2 p g).2.2⟩)⟩⟩
theorem RdL.snoc {l:List V} {x:V} (h:RdL l) (g:x.ord) (i:x.sb):RdL (l++ [x]):=by
 intro y hy;rcases gB5 hy with hy|hy
 ·exact h y hy
 ·simp at hy;subst hy;exact ⟨g,i⟩
theorem RdM.put {m:List (ByteArray×V)} {k:ByteArray} {x:V} (h:RdM m) (i:k.size≤1000000) (j:x.ord) (r:x.sb):RdM (ap k x m):=by
 refine ⟨iF h.1,fun p g=> ?_⟩;rcases lR g with rfl|g
 ·exact ⟨i,j,r⟩
 ·exact h.2 p g
theorem fe (k:ByteArray) (x:V): ∀m:List (ByteArray×V),aA (ap k x m)≤aA m+x.size
 | []=>by simp [ap,aA]
 |(y,z)::m=>by
  have:=fe k x m;rw [ap];split
  ·simp only [aA];omega
  ·split
   ·simp only [aA];omega
   ·simp only [aA];omega
theorem Cg {s key rest:Bs} (h:ra s=(key,rest,0)):key.length≤s.length∧rest.length+1≤s.length:=by
 unfold ra at h;split at h
 ·split at h
  ·cases h
  ·rename_i x r p
   have:=ir p;split at h
   ·cases h
   ·rename_i c r'
    simp only [gA3] at this;split at h
    ·cases h;omega
    ·cases h
 ·split at h
  ·cases h
  ·rename_i hi
   split at h
   ·cases h
   ·cases h
    have j:=iI (s.take (Lib.indexByte s 58).toNat);rcases mG s 58 with ⟨g,_⟩|⟨i,g,C,_⟩
    ·exact absurd g hi
    ·rw [g] at j⊢
     simp only [Int.toNat_natCast,gA7,gA6] at j⊢;omega
structure FOk (sz:Nat) (s:Bs) (r:V×Bs×Int):Prop where
 ord:r.1.ord
 sb:r.1.sb
 le:r.2.1.length≤s.length
 fit:r.2.2=0→r.1.size+r.2.1.length≤s.length+sz
 any:r.1.size≤s.length+sz+1
theorem FOk.bad (sz:Nat) (s:Bs) {e:Int} (h:e≠0):FOk sz s (V.null,[],e):=⟨eF,gg,by simp,fun g=>absurd g h,by rw [cT];omega⟩
theorem dY: ∀(n:Nat) (m:FM) (s:Bs),s.length≤1000000→cu m+s.length≤1000000000→N9 m→FOk (cu m) s (bD n m s)
 |0,m,s,_,_,_=>FOk.bad _ _ (by decide)
 |n+1,.one ends,s,U,I,T=>by
  have hl:=dl s;unfold bD;split
  ·exact FOk.bad _ _ (by decide)
  ·rename_i c t ht
   rw [ht] at hl;simp only [gA3] at hl;have C:=dl t;split
   ·split
    ·have h:=dY n (.flow []) [] (by simp) (by simp [cu,aK]) (fun x j=>by cases j)
     exact ⟨h.ord,h.sb,gB7 (show _≤0 from h.le) (gB8 _),fun g=>by have:=h.fit g;simp only [cu,aK,List.length_nil] at this⊢;omega,by have:=h.any;simp only [cu,aK,List.length_nil] at this⊢;omega⟩
    ·rename_i d u P
     rw [P] at C;simp only [gA3] at C;split
     ·have J:=dl u
      have i:=wd (l:= []) (fun x j=>by cases j) (by simp [aK]);exact ⟨i.1,i.2,by simp only;omega,fun _=>by rw [gL];simp only [aK,cu];omega,by rw [gL];simp only [aK,cu];omega⟩
     ·have h:=dY n (.flow []) (d::u) (by simp only [gA3];omega) (by simp only [cu,aK,gA3];omega) (fun x j=>by cases j)
      exact ⟨h.ord,h.sb,by have:=h.le;simp only [gA3] at this;omega,fun g=>by have:=h.fit g;simp only [cu,aK,gA3] at this⊢;omega,by have:=h.any;simp only [cu,aK,gA3] at this⊢;omega⟩
   ·split
    ·split
     ·have h:=dY n (.braces []) [] (by simp) (by simp [cu,aA]) ⟨List.Pairwise.nil,fun x j=>by cases j⟩
      exact ⟨h.ord,h.sb,gB7 (show _≤0 from h.le) (gB8 _),fun g=>by have:=h.fit g;simp only [cu,aA,List.length_nil] at this⊢;omega,by have:=h.any;simp only [cu,aA,List.length_nil] at this⊢;omega⟩
     ·rename_i d u P
      rw [P] at C;simp only [gA3] at C;split
      ·have J:=dl u
       have i:=Aq (m:= []) ⟨List.Pairwise.nil,fun x j=>by cases j⟩ (by simp [aA]);exact ⟨i.1,i.2,by simp only;omega,fun _=>by rw [bX];simp only [aA,cu];omega,by rw [bX];simp only [aA,cu];omega⟩
      ·have h:=dY n (.braces []) (d::u) (by simp only [gA3];omega) (by simp only [cu,aA,gA3];omega) ⟨List.Pairwise.nil,fun x j=>by cases j⟩
       exact ⟨h.ord,h.sb,by have:=h.le;simp only [gA3] at this;omega,fun g=>by have:=h.fit g;simp only [cu,aA,gA3] at this⊢;omega,by have:=h.any;simp only [cu,aA,gA3] at this⊢;omega⟩
    ·split
     ·split
      ·have h:=Jx ⟨#[]⟩ (by decide)
       exact ⟨h.1,h.2.1,by simp,(fun g=>absurd g (by decide)),(by rw [h.2.2];omega)⟩
      ·rename_i x rest P
       have J:=ir P;simp only [gA3] at J;have i:=dl rest;have h:=Jx (toB x) (by show x.length≤_;omega);exact ⟨h.1,h.2.1,by simp only;omega,fun _=>by rw [h.2.2];simp only [cu];omega,by rw [h.2.2];omega⟩
     ·split
      ·exact FOk.bad _ _ (by decide)
      ·rename_i hw
       have hne:1≤cQ ends (c::t):=by
        rcases Nat.eq_zero_or_pos (cQ ends (c::t)) with h0|h0
        ·rw [h0] at hw
         simp [dB,tr,Lib.trimRightB] at hw
        ·exact h0
       have hsz:(tr ((c::t).take (cQ ends (c::t)))).length≤s.length:=by
        have J:=iI ((c::t).take (cQ ends (c::t)));have i:((c::t).take (cQ ends (c::t))).length≤(c::t).length:=by rw [gA7];omega
        simp only [gA3] at i;omega
       have h:=Ho (toB (tr ((c::t).take (cQ ends (c::t)))));exact ⟨h.1,h.2.1 (by show (tr ((c::t).take (cQ ends (c::t)))).length≤_;omega),by simp only [gA6,gA3];omega,fun _=>by rw [h.2.2];simp only [cu,gA6,gA3];omega,by rw [h.2.2];omega⟩
 |n+1,.flow out,s,U,I,T=>by
  have h:=dY n (.one [44,93]) s U (by simp only [cu] at I⊢;omega) trivial;unfold bD;split;rename_i v rest e hr;rw [hr] at h;split
  ·rename_i g;exact FOk.bad _ _ g
  ·rename_i g
   have g:e=0:=by simpa using g
   have R:=h.fit g;simp only [cu] at R I;have p:RdL (out++ [v]):=RdL.snoc T h.ord h.sb;have hsz:aK (out++ [v])=aK out+v.size:=by rw [cG];simp [aK]
   split
   ·exact FOk.bad _ _ (by decide)
   ·rename_i c u
    simp only [gA3] at R;split
    ·have J:=dl u
     have i:=wd p (by omega);exact ⟨i.1,i.2,by simp only;omega,fun _=>by rw [gL,hsz];simp only [cu];omega,by rw [gL,hsz];simp only [cu];omega⟩
    ·split
     ·have r:=dY n (.flow (out++ [v])) u (by omega) (by simp only [cu,hsz];omega) p
      exact ⟨r.ord,r.sb,by have:=r.le;omega,fun g=>by have:=r.fit g;simp only [cu,hsz] at this⊢;omega,by have:=r.any;simp only [cu,hsz] at this⊢;omega⟩
     ·exact FOk.bad _ _ (by decide)
 |n+1,.braces out,s,U,I,T=>by
  have hl:=dl s;unfold bD;split;rename_i key rest k hk;split
  ·rename_i g;exact FOk.bad _ _ g
  ·rename_i g
   have g:k=0:=by simpa using g
   subst g;obtain ⟨k1,k2⟩:=Cg hk;split
   ·exact FOk.bad _ _ (by decide)
   ·have h:=dY n (.one [44,125]) rest (by omega) (by simp only [cu] at I⊢;omega) trivial
    split;rename_i v more e hr;rw [hr] at h;split
    ·rename_i g;exact FOk.bad _ _ g
    ·rename_i g
     have g:e=0:=by simpa using g
     have R:=h.fit g;simp only [cu] at R I;have p:RdM (ap (toB key) v out):=RdM.put T (by show key.length≤_;omega) h.ord h.sb;have hsz:=fe (toB key) v out;split
     ·exact FOk.bad _ _ (by decide)
     ·rename_i c u
      simp only [gA3] at R;split
      ·have J:=dl u
       have i:=Aq p (by omega);exact ⟨i.1,i.2,by simp only;omega,fun _=>by rw [bX];simp only [cu];omega,by rw [bX];simp only [cu];omega⟩
      ·split
       ·have r:=dY n (.braces (ap (toB key) v out)) u (by omega) (by simp only [cu];omega) p
        exact ⟨r.ord,r.sb,by have:=r.le;omega,fun g=>by have:=r.fit g;simp only [cu] at this⊢;omega,by have:=r.any;simp only [cu] at this⊢;omega⟩
       ·exact FOk.bad _ _ (by decide)
theorem Hp (s:Bs) (g:s.length≤1000000):(mH s).1.ord∧(mH s).1.sb∧(mH s).1.size≤s.length+1:=by
 have h:=dY (2*s.length+1) (.one []) s g (by simp only [cu];omega) trivial;unfold mH;split;rename_i v rest e hr;rw [hr] at h;split
 ·exact ⟨eF,gg,by rw [cT];omega⟩
 ·split
  ·exact ⟨eF,gg,by rw [cT];omega⟩
  ·exact ⟨h.ord,h.sb,by have:=h.any;simp only [cu] at this;omega⟩
end
section
open Go.RowKit
theorem yQ {s key rest:Bs} (h:dj s=some (key,rest)):key.length≤s.length∧rest.length≤s.length:=by
 unfold dj at h;split at h
 ·split at h
  ·cases h
  ·rename_i x r j
   have:=ir j;split at h
   ·cases h
   ·rename_i c r'
    simp only [gA3] at this;split at h
    ·split at h
     ·cases h;simp;omega
     ·rename_i d p
      have g:=dl (d::p);simp only [gA3] at this g;split at h
      ·cases h;omega
      ·cases h
    ·cases h
 ·split at h
  ·split at h
   ·split at h
    ·cases h
    ·cases h
     have i:=iI (s.take (s.length-1));rw [gA7] at i;simp;omega
   ·cases h
  ·split at h
   ·cases h
   ·cases h
    have i:=iI (s.take (Lib.index s [58,32]).toNat);have g:=dl (s.drop ((Lib.index s [58,32]).toNat+1));rw [gA7] at i;rw [gA6] at g;omega
structure YInv (st:YR):Prop where
 at_:st.at_≤st.l.length
 len:st.l.length≤1000000
 ln: ∀x∈st.l,x.1+x.2.length≤1000000
def Oa:YM→Prop
 | .block=>True
 | .below=>True
 | .list out=>RdL out
 | .pairs out=>RdM out
def dV:YM→Nat
 | .block=>0
 | .below=>0
 | .list out=>aK out
 | .pairs out=>aA out
theorem YR.w_at {st:YR} {x:Nat×Bs} (h:st.l[st.at_]? =some x):st.w=x.2.length+1+(YR.mk st.l (st.at_+1) st.bad).w:=by
 unfold YR.w wAt;rw [pC h,List.map_cons,List.sum_cons]
theorem YR.w_set {st:YR} {x y:Nat×Bs} (h:st.l[st.at_]? =some x):(YR.mk (st.l.set st.at_ y) st.at_ st.bad).w=y.2.length+1+(YR.mk st.l (st.at_+1) st.bad).w:=by
 have hl:=(gA0 h).1;unfold YR.w wAt;simp only;rw [pC (x:=y) (by rw [List.getElem?_set_self hl]),List.map_cons,List.sum_cons,List.drop_set_of_lt (by omega)]
theorem YR.w_fail (st:YR) (e:Int):(st.fail e).w=0:=by unfold YR.w YR.fail wAt;simp
theorem YInv.fail {st:YR} (h:YInv st) (e:Int):YInv (st.fail e):=⟨gA4 _,h.len,h.ln⟩
theorem YInv.next {st:YR} (h:YInv st) {x:Nat×Bs} (g:st.l[st.at_]? =some x):YInv ⟨st.l,st.at_+1,st.bad⟩:=⟨(gA0 g).1,h.len,h.ln⟩
theorem YInv.set {st:YR} (h:YInv st) {y:Nat×Bs} (hy:y.1+y.2.length≤1000000):YInv ⟨st.l.set st.at_ y,st.at_,st.bad⟩:=by
 refine ⟨by simpa using h.at_,by simpa using h.len,fun x g=> ?_⟩;rcases List.mem_or_eq_of_mem_set g with g|rfl
 ·exact h.ln x g
 ·exact hy
structure ROk (sz:Nat) (st:YR) (r:V×YR):Prop where
 ord:r.1.ord
 sb:r.1.sb
 inv:YInv r.2
 len:r.2.l.length=st.l.length
 w:r.2.w≤st.w
 fit:r.1.size+r.2.w≤st.w+1+sz
theorem ROk.failed {st st1:YR} (h:YInv st1) (hl:st1.l.length=st.l.length) (sz:Nat) (e:Int):ROk sz st (V.null,st1.fail e):=
 ⟨eF,gg,h.fail e,hl,by rw [YR.w_fail];omega,by rw [YR.w_fail,cT];omega⟩
theorem Ev {st:YR} (h:YInv st) {s:Bs} (g:s.length≤1000000):(lg s st).1.ord∧(lg s st).1.sb∧YInv (lg s st).2∧(lg s st).2.l.length=st.l.length∧(lg s st).2.w≤st.w∧(lg s st).1.size≤s.length+1:=by
 have hi:=Hp s g;unfold lg;split;rename_i v e i;rw [i] at hi;split
 ·exact ⟨eF,gg,h.fail e,rfl,by rw [YR.w_fail];omega,by rw [cT];omega⟩
 ·exact ⟨hi.1,hi.2.1,h,rfl,gA4 _,hi.2.2⟩
theorem Ch {s:Bs} (h:dH s=true):(tl (s.drop 1)).length+1≤s.length:=by
 have g:=dl (s.drop 1)
 have i:1≤s.length:=by
  cases s with
  |nil=>simp [dH] at h
  |cons c l=>simp
 rw [gA6] at g;omega
theorem dZ: ∀(n:Nat) (m:YM) (i:Nat) (st:YR),YInv st→st.w+dV m≤1000000000→Oa m→ROk (dV m) st (a8 n m i st)
 |0,m,i,st,h,_,_=>⟨eF,gg,h,rfl,gA4 _,by show V.null.size+st.w≤_;rw [cT];omega⟩
 |n+1,.block,i,st,h,hw,_=>by
  unfold a8;split
  ·exact ⟨eF,gg,h,rfl,gA4 _,by show V.null.size+st.w≤_;rw [cT];omega⟩
  ·rename_i j text p
   have J:=h.ln _ (gA2 p);have P:=YR.w_at p;simp only at J P
   have key:ROk 0 st (if dH text=true then a8 n (.list []) i st else if (dj text).isSome=true then a8 n (.pairs []) i st else lg text ⟨st.l,st.at_+1,st.bad⟩):=by
    split
    ·exact dZ n (.list []) i st h (by simp only [dV,aK] at hw⊢;omega) (fun x p=>by cases p)
    ·split
     ·exact dZ n (.pairs []) i st h (by simp only [dV,aA] at hw⊢;omega) ⟨List.Pairwise.nil,fun x p=>by cases p⟩
     ·obtain ⟨C,k2,k3,k4,k5,k6⟩:=Ev (h.next p) (s:=text) (by omega)
      exact ⟨C,k2,k3,k4,by omega,by omega⟩
   split;rename_i v st1 hr;rw [hr] at key;split
   ·exact ROk.failed key.inv key.len _ _
   ·exact key
 |n+1,.below,i,st,h,hw,_=>by
  unfold a8;split
  ·exact ⟨eF,gg,h,rfl,gA4 _,by show V.null.size+st.w≤_;rw [cT];omega⟩
  ·rename_i j t p
   split
   ·exact dZ n .block j st h hw trivial
   ·exact ⟨eF,gg,h,rfl,gA4 _,by show V.null.size+st.w≤_;rw [cT];omega⟩
 |n+1,.list out,i,st,h,hw,hm=>by
  have r:ROk (dV (.list out)) st (jg out,st):=by
   have h1:=wd hm (by simp only [dV] at hw;omega);exact ⟨h1.1,h1.2,h,rfl,gA4 _,by rw [gL];simp only [dV];omega⟩
  unfold a8;split
  ·exact r
  ·rename_i j text p
   have J:=h.ln _ (gA2 p);have P:=YR.w_at p;simp only at J P;split
   ·rename_i hc
    obtain ⟨rfl,hit⟩:=hc;have hil:=Ch hit;simp only [dV] at hw
    have go: ∀v st1,ROk 0 st (v,st1)→v.size+st1.w≤st.w→ROk (dV (.list out)) st (a8 n (.list (out++ [v])) j st1):=fun v st1 C k2=>by
     have hsz:aK (out++ [v])=aK out+v.size:=by rw [cG];simp [aK]
     have R:=C.inv;have T:=C.len;have U:=C.w;simp only at R T U;have I:=dZ n (.list (out++ [v])) j st1 R (by simp only [dV,hsz];omega) (hm.snoc C.ord C.sb);exact ⟨I.ord,I.sb,I.inv,I.len.trans T,gB7 I.w U,by have:=I.fit;simp only [dV,hsz] at this⊢;omega⟩
    split
    ·have g:=dZ n .below j ⟨st.l,st.at_+1,st.bad⟩ (h.next p) (by simp only [dV];omega) trivial
     split;rename_i v st1 hr;rw [hr] at g;have f:=g.fit;have w:=g.w;simp only [dV] at f w;exact go v st1 ⟨g.ord,g.sb,g.inv,g.len,by simp only;omega,by simp only;omega⟩ (by omega)
    ·have hset:=YR.w_set (st:=st) (y:=(j+text.length-(tl (text.drop 1)).length,tl (text.drop 1))) p
     simp only at hset;have g:=dZ n .block (j+text.length-(tl (text.drop 1)).length) ⟨st.l.set st.at_ (j+text.length-(tl (text.drop 1)).length,tl (text.drop 1)),st.at_,st.bad⟩ (h.set (by simp only;omega)) (by simp only [dV];omega) trivial;split;rename_i v st1 hr;rw [hr] at g;have f:=g.fit;have w:=g.w;have l:=g.len;simp only [dV] at f w l;rw [List.length_set] at l;exact go v st1 ⟨g.ord,g.sb,g.inv,l,by simp only;omega,by simp only;omega⟩ (by omega)
   ·exact r
 |n+1,.pairs out,i,st,h,hw,hm=>by
  have r:ROk (dV (.pairs out)) st (bP out,st):=by
   have h1:=Aq hm (by simp only [dV] at hw;omega);exact ⟨h1.1,h1.2,h,rfl,gA4 _,by rw [bX];simp only [dV];omega⟩
  unfold a8;split
  ·exact r
  ·rename_i j text p
   have J:=h.ln _ (gA2 p);have P:=YR.w_at p;simp only at J P;split
   ·rename_i hj
    subst hj;split
    ·exact ROk.failed h rfl _ _
    ·split
     ·exact ROk.failed h rfl _ _
     ·rename_i key rest hsp
      obtain ⟨z1,z2⟩:=yQ hsp;split
      ·exact ROk.failed h rfl _ _
      ·simp only [dV] at hw
       have go: ∀v st1,ROk 0 st (v,st1)→v.size+st1.w≤st.w→ROk (dV (.pairs out)) st (a8 n (.pairs (ap (toB key) v out)) j st1):=fun v st1 C k2=>by
        have hsz:=fe (toB key) v out;have R:=C.inv;have T:=C.len;have U:=C.w;simp only at R T U;have I:=dZ n (.pairs (ap (toB key) v out)) j st1 R (by simp only [dV];omega) (hm.put (by show key.length≤_;omega) C.ord C.sb);exact ⟨I.ord,I.sb,I.inv,I.len.trans T,gB7 I.w U,by have:=I.fit;simp only [dV] at this⊢;omega⟩
       have key2:ROk 0 st (if rest= [] then a8 n .below j ⟨st.l,st.at_+1,st.bad⟩ else lg rest ⟨st.l,st.at_+1,st.bad⟩)∧(if rest= [] then a8 n .below j ⟨st.l,st.at_+1,st.bad⟩ else lg rest ⟨st.l,st.at_+1,st.bad⟩).1.size+(if rest= [] then a8 n .below j ⟨st.l,st.at_+1,st.bad⟩ else lg rest ⟨st.l,st.at_+1,st.bad⟩).2.w≤st.w:=by
        split
        ·have g:=dZ n .below j ⟨st.l,st.at_+1,st.bad⟩ (h.next p) (by simp only [dV];omega) trivial
         have f:=g.fit;have w:=g.w;simp only [dV] at f w;exact ⟨⟨g.ord,g.sb,g.inv,g.len,by omega,by omega⟩,by omega⟩
        ·obtain ⟨C,k2,k3,k4,k5,k6⟩:=Ev (h.next p) (s:=rest) (by omega)
         exact ⟨⟨C,k2,k3,k4,by omega,by omega⟩,by omega⟩
       split;rename_i v st1 hr;rw [hr] at key2;exact go v st1 key2.1 key2.2
   ·exact r
end
section
set_option maxRecDepth 100000
set_option maxHeartbeats 20000000
def aP:List Nat:= [2000048,2000148,2000092,2000093,2000047,2000094,2000046]
noncomputable def Ar:ACode:=bK Tryz.prog aP Tryz.f142
noncomputable def As:AFn:=⟨2,27,Ar,[.tmp 4]⟩
theorem k7:aq Tryz.prog aP Tryz.f142=some As:=kk
theorem lc:ab Tryz.prog 142=true:=kk
noncomputable def Ci:ACode:=bK Tryz.prog aP Tryz.f88
noncomputable def Cj:AFn:=⟨1,54,Ci,[.tmp 2]⟩
theorem we:aq Tryz.prog aP Tryz.f88=some Cj:=kk
theorem wf:ab Tryz.prog 88=true:=kk
noncomputable def Ck:ACode:=bK Tryz.prog aP Tryz.f91
noncomputable def Cm:AFn:=⟨1,9,Ck,[.tmp 2]⟩
theorem wg:aq Tryz.prog aP Tryz.f91=some Cm:=kk
theorem wh:ab Tryz.prog 91=true:=kk
noncomputable def Ew:ACode:=bK Tryz.prog aP Tryz.f146
noncomputable def Ex:AFn:=⟨1,11,Ew,[.tmp 2]⟩
theorem nV:aq Tryz.prog aP Tryz.f146=some Ex:=kk
theorem nW:ab Tryz.prog 146=true:=kk
noncomputable def Au:ACode:=bK Tryz.prog aP Tryz.f90
noncomputable def Av:AFn:=⟨1,74,Au,[.tmp 2,.tmp 3,.tmp 4]⟩
theorem tH:aq Tryz.prog aP Tryz.f90=some Av:=kk
theorem tI:ab Tryz.prog 90=true:=kk
noncomputable def Ey:ACode:=bK Tryz.prog aP Tryz.f149
noncomputable def Ez:AFn:=⟨2,105,Ey,[.cell 4 6 true,.tmp 5,.tmp 6]⟩
theorem xT:aq Tryz.prog aP Tryz.f149=some Ez:=kk
theorem xU:ab Tryz.prog 149=true:=kk
noncomputable def Cn:ACode:=bK Tryz.prog aP Tryz.f201
noncomputable def Co:AFn:=⟨1,48,Cn,[.cell 2 6 true,.tmp 3,.tmp 4]⟩
theorem wi:aq Tryz.prog aP Tryz.f201=some Co:=kk
theorem wj:ab Tryz.prog 201=true:=kk
noncomputable def xV:ACode:=bK Tryz.prog aP Tryz.f202
noncomputable def xW:AFn:=⟨1,118,xV,[.cell 2 6 true,.tmp 3,.tmp 4]⟩
theorem rb:aq Tryz.prog aP Tryz.f202=some xW:=kk
theorem rc:ab Tryz.prog 202=true:=kk
noncomputable def j4:ACode:=bK Tryz.prog aP Tryz.f46
noncomputable def pV:AFn:=⟨1,37,j4,[.tmp 2,.tmp 3]⟩
theorem fM:aq Tryz.prog aP Tryz.f46=some pV:=kk
theorem fN:ab Tryz.prog 46=true:=kk
noncomputable def eh:ACode:=bK Tryz.prog aP Tryz.f48
noncomputable def oD:AFn:=⟨2,23,eh,[.cell 4 6 true]⟩
theorem lh:aq Tryz.prog aP Tryz.f48=some oD:=kk
theorem li:ab Tryz.prog 48=true:=kk
noncomputable def dI:ACode:=bK Tryz.prog aP Tryz.f148
noncomputable def mZ:AFn:=⟨2,44,dI,[.cell 4 6 true]⟩
theorem j5:aq Tryz.prog aP Tryz.f148=some mZ:=kk
theorem j6:ab Tryz.prog 148=true:=kk
noncomputable def ei:ACode:=bK Tryz.prog aP Tryz.f92
noncomputable def oE:AFn:=⟨2,116,ei,[.cell 4 6 true]⟩
theorem lj:aq Tryz.prog aP Tryz.f92=some oE:=kk
theorem lk:ab Tryz.prog 92=true:=kk
noncomputable def dJ:ACode:=bK Tryz.prog aP Tryz.f93
noncomputable def m5:AFn:=⟨2,102,dJ,[.cell 4 6 true]⟩
theorem j7:aq Tryz.prog aP Tryz.f93=some m5:=kk
theorem j8:ab Tryz.prog 93=true:=kk
noncomputable def dK:ACode:=bK Tryz.prog aP Tryz.f47
noncomputable def m6:AFn:=⟨2,76,dK,[.cell 4 6 true]⟩
theorem j9:aq Tryz.prog aP Tryz.f47=some m6:=kk
theorem ka:ab Tryz.prog 47=true:=kk
noncomputable def dm:ACode:=bK Tryz.prog aP Tryz.f94
noncomputable def lV:AFn:=⟨2,26,dm,[.cell 4 6 true]⟩
theorem jh:aq Tryz.prog aP Tryz.f94=some lV:=kk
theorem ji:ab Tryz.prog 94=true:=kk
noncomputable def Aw:ACode:=bK Tryz.prog aP Tryz.f13
noncomputable def Ax:AFn:=⟨1,68,Aw,[.cell 2 6 true,.tmp 3]⟩
theorem tJ:aq Tryz.prog aP Tryz.f13=some Ax:=kk
theorem tK:ab Tryz.prog 13=true:=kk
noncomputable def Cp:ACode:=bK Tryz.prog aP Tryz.f64
noncomputable def Cq:AFn:=⟨1,32,Cp,[.tmp 2]⟩
theorem wk:aq Tryz.prog aP Tryz.f64=some Cq:=kk
theorem wl:ab Tryz.prog 64=true:=kk
end
end Go.Proofs.YtbgflifmanjpjaaGreatDoor
