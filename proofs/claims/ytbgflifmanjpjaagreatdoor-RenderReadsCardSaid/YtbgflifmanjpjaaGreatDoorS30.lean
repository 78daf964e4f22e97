/- Part 30. -/
import Derived.Test.YtbgflifmanjpjaaGreatDoorS29
import Derived.Carry
set_option linter.unusedSimpArgs false
set_option linter.unusedVariables false
namespace Go.Proofs.YtbgflifmanjpjaaGreatDoor
open Go.RowKit Go.Maps Go.MapKept Go.ChangeMaps
def plV:AV→Option Value
 | .int k n=>some (.int k n)
 | .bool b=>some (.bool b)
 | .str s=>some (.string s)
 |_=>none
theorem Gd {σ:Sg} {v u:Value} {a:AV} (h:Rel1 σ v a) (g:plV a=some u):v=u:=by cases h<;>simp [plV] at g<;>exact g
theorem LC {a b:AV} {u:Value} (g:plV a=some u) (hb:plV b=some u):a=b:=by
 cases a<;>simp [plV] at g<;>subst g<;>cases b<;>simp [plV] at hb<;>simp [hb]
theorem LD {a:AV} {u:Value} (h:plV a=some u):u.oneCell' =true:=by cases a<;>simp [plV] at h<;>subst h<;>rfl
def ni:List AV→Option (List Value)
 | []=>some []
 |a::l=>match plV a,ni l with
  |some u,some us=>some (u::us)
  |_,_=>none
theorem dC {a:AV} {l:List AV} {us:List Value} (h:ni (a::l)=some us): ∃u vs,us=u::vs∧plV a=some u∧ni l=some vs:=by
 unfold ni at h;split at h
 ·rename_i u vs g i
  cases h;exact ⟨u,vs,rfl,g,i⟩
 ·cases h
theorem wH {σ:Sg}: ∀{l:List AV} {vs us:List Value},RelL σ vs l→ni l=some us→vs=us
 | [],vs,us,h,g=>by cases g;exact List.eq_nil_of_length_eq_zero h.1
 |a::l,vs,us,h,g=>by
  obtain ⟨u,i,rfl,j,p⟩:=dC g;cases vs with
  |nil=>have:=h.1;simp at this
  |cons v vs=>rw [Gd h.head j,wH h.tail p]
theorem CP: ∀{a b:List AV} {us:List Value},ni a=some us→ni b=some us→a=b
 | [],[],_,_,_=>rfl
 | [],y::b,us,h,k=>by obtain ⟨u,vs,rfl,_,_⟩:=dC k;cases h
 |x::a,[],us,h,k=>by obtain ⟨u,vs,rfl,_,_⟩:=dC h;cases k
 |x::a,y::b,us,h,k=>by
  obtain ⟨u,vs,rfl,g,i⟩:=dC h;obtain ⟨C,j,e,p,r⟩:=dC k;cases e;rw [LC g p,CP i r]
theorem CQ: ∀{a:List AV} {us:List Value},ni a=some us→us.length=a.length
 | [],us,h=>by cases h;rfl
 |x::a,us,h=>by obtain ⟨u,vs,rfl,_,g⟩:=dC h;simp [CQ g]
def yb (us:List Value):Value:=match us with
 | [u]=>u
 |us=> .agg us.toArray
def ey (cs:List AV):AV:=match cs with
 | [a]=>a
 |cs=> .agg cs
def nj (κ:List AV):Option Value:=(ni κ).map yb
theorem y8 {v:Value} (h:v.oneCell' =true):v.cells= #[v]:=by cases v<;>first|rfl|cases h
theorem Ge {v:Value} (h:ph v):v=yb v.cells.toList:=by
 unfold ph at h;cases v with
 |agg cs=>
  have i:(Value.agg cs).cells=cs:=rfl;rw [i] at h⊢;by_cases g:cs.size=1
  ·have:=h g;cases this
  ·unfold yb
   split
   ·rename_i u j
    have:=congrArg List.length j;simp at this;exact absurd this g
   ·simp
 |_=>rfl
theorem JU {us vs:List Value} (g: ∀u∈us,u.oneCell' =true) (i: ∀u∈vs,u.oneCell' =true) (h:yb us=yb vs):us=vs:=by
 have key: ∀{us:List Value},(∀u∈us,u.oneCell' =true)→(yb us).cells.toList=us:=by
  intro us g;unfold yb;split
  ·rename_i u
   rw [y8 (g u (by simp))]
  ·simp [Value.cells]
 rw [←key g,←key i,h]
theorem wI: ∀{a:List AV} {us:List Value},ni a=some us→ ∀u∈us,u.oneCell' =true
 | [],us,h=>by cases h;intro u i;cases i
 |x::a,us,h=>by
  obtain ⟨u,vs,rfl,j,p⟩:=dC h;intro w g;rcases gB2 g with rfl|g
  ·exact LD j
  ·exact wI p w g
theorem CR {a b:List AV} {v:Value} (g:nj a=some v) (hb:nj b=some v):a=b:=by
 unfold nj at g hb;cases i:ni a with
 |none=>rw [i] at g;cases g
 |some us=>
  cases j:ni b with
  |none=>rw [j] at hb;cases hb
  |some vs=>
   rw [i] at g;rw [j] at hb;simp only [Option.map_some,gB9] at g hb;have e:=JU (wI i) (wI j) (g.trans hb.symm);subst e;exact CP i j
theorem wJ {σ:Sg} {v j:Value} {κ:List AV} (p:ph v) (h:RelL σ v.cells.toList κ) (g:nj κ=some j):v=j:=by
 unfold nj at g;cases i:ni κ with
 |none=>rw [i] at g;cases g
 |some us=>
  rw [i] at g;simp only [Option.map_some,gB9] at g;rw [Ge p,wH h i,g]
theorem rG {σ:Sg} {v:Value} {cs:List AV} (p:ph v) (h:RelL σ v.cells.toList cs):RelP σ v (ey cs):=by
 rw [Ge p];unfold ey;split
 ·rename_i a
  obtain ⟨u,g⟩: ∃u,v.cells.toList= [u]:=List.length_eq_one_iff.1 h.1
  rw [g] at h⊢;have j:Rel1 σ u a:=h.head;show RelP σ u a;cases a<;>first|exact j|cases j
 ·rename_i i
  have r:yb v.cells.toList= .agg v.cells:=by
   unfold yb;split
   ·rename_i u g
    rw [g] at h;obtain ⟨c,rfl⟩:=List.length_eq_one_iff.1 h.1.symm;exact absurd rfl (i c)
   ·simp
  rw [r];exact ⟨v.cells.toList,by simp,h⟩
def AV.isAgg:AV→Bool
 | .agg _=>true
 |_=>false
def AV.isVal:AV→Bool
 | .int _ _| .bool _| .str _| .lst _ _ _| .ro _| .fn _ _| .raw _| .top=>true
 |_=>false
theorem y9 {c:AV} (h:c.isVal=true):c.isAgg=false:=by cases c<;>first|rfl|cases h
theorem RelB1.val {σ:Sg} {B:Nat→Option Nat} {v:Value} {cs:List AV} (h:RelB1 σ B v (ey cs)) (g: ∀c∈cs,c.isVal=true):RelP σ v (ey cs):=by
 unfold ey at h⊢;split at h
 ·rename_i a
  have i:=g a (by simp);cases a<;>first|exact h|cases i
 ·exact h
theorem CT: ∀{a:List AV} {us:List Value},ni a=some us→ ∀c∈a,c.isVal=true
 | [],us,_=>fun c g=>by cases g
 |x::a,us,h=>by
  obtain ⟨u,vs,rfl,i,j⟩:=dC h;intro c g;rcases gB2 g with rfl|g
  ·cases c<;>first|rfl|cases i
  ·exact CT j c g
theorem CU {κ:List AV} {i:Value} (h:nj κ=some i): ∀c∈κ,c.isVal=true:=by
 unfold nj at h;cases g:ni κ with
 |none=>rw [g] at h;cases h
 |some us=>exact CT g
theorem za {σ:Sg} {v:Value} {cs:List AV} (h:RelP σ v (ey cs)) (j: ∀c∈cs,c.isAgg=false):ph v∧RelL σ v.cells.toList cs:=by
 unfold ey at h;split at h
 ·rename_i a
  have g:Rel1 σ v a:=by
   have p:=j a (by simp);cases a<;>first|exact h|cases p
  refine ⟨fun _=>g.one,?_⟩;rw [y8 g.one];exact .cons g .nil
 ·rename_i i
  obtain ⟨us,rfl,g⟩:=h;refine ⟨fun r=> ?_,by simpa [Value.cells] using g⟩;have:us.length=1:=by simpa [Value.cells] using r
  rw [g.1] at this;obtain ⟨c,rfl⟩:=List.length_eq_one_iff.1 this;exact absurd rfl (i c)
abbrev MRow:=List AV×List AV
def mcA (rows:List MRow):AV:= .fn 0 (rows.map fun r=> .fn r.1.length (r.1++r.2))
def CV (σ:Sg) (e:MapEntry) (r:MRow):Prop:=RelL σ e.key.cells.toList r.1∧RelL σ e.val.cells.toList r.2∧ph e.key∧ph e.val
def b8 (σ:Sg) (g:List MapEntry) (rows:List MRow):Prop:=g.length=rows.length∧ ∀(j:Nat) e r,g[j]? =some e→rows[j]? =some r→CV σ e r
theorem RelL.split {σ:Sg} {a b:List Value} {c d:List AV} (h:RelL σ (a++b) (c++d)) (hl:a.length=c.length):RelL σ a c∧RelL σ b d:=by
 have g:=h.take a.length;have i:=h.drop a.length;rw [List.take_left' rfl,List.take_left' hl.symm] at g;rw [List.drop_left' rfl,List.drop_left' hl.symm] at i;exact ⟨g,i⟩
theorem JV {σ:Sg} {f:FuncId} {us:List Value} {cap:List AV} (h:RelL σ us cap):Rel1 σ (.func (.func f) #[] us.toArray) (.fn f cap):=
 .fn f cap us h.1 (fun j=>us.getD j undef) (fun j v g=>by simp [List.getD,g]) fun j a i=>by
  obtain ⟨v,g,hr⟩:=h.at_ i;simp only [List.getD,g];exact hr
theorem HH {σ:Sg} {rows' rows:List MRow} (hp:rows'.Perm rows): ∀{g:List MapEntry},b8 σ g rows' → ∃C:List MapEntry,C.Perm g∧b8 σ C rows:=by
 have cons: ∀{e:MapEntry} {r:MRow} {l:List MapEntry} {m:List MRow},CV σ e r→b8 σ l m→b8 σ (e::l) (r::m):=fun I p=>⟨by simp [p.1],fun j e r J hr=>by
  cases j with
  |zero=>cases J;cases hr;exact I
  |succ j=>exact p.2 j e r (by simpa using J) (by simpa using hr)⟩
 have i: ∀{l:List MapEntry} {r:MRow} {m:List MRow},b8 σ l (r::m)→ ∃e l',l=e::l' ∧CV σ e r∧b8 σ l' m:=fun {l r m} h=>by
  cases l with
  |nil=>have:=h.1;simp at this
  |cons e l=>exact ⟨e,l,rfl,h.2 0 e r rfl rfl,by have:=h.1;simpa using this,fun j e' r' J hr=>h.2 (j+1) e' r' (by simpa using J) (by simpa using hr)⟩
 induction hp with
 |nil=>exact fun {g} h=>⟨g,.refl _,h⟩
 |cons x _ ih=>
  intro g h;obtain ⟨e,l,rfl,I,p⟩:=i h;obtain ⟨C,q1,P⟩:=ih p;exact ⟨e::C,q1.cons e,cons I P⟩
 |swap x y l=>
  intro g h;obtain ⟨e,l1,rfl,I,p⟩:=i h;obtain ⟨e2,l2,rfl,h3,h4⟩:=i p;exact ⟨e2::e::l2,.swap _ _ _,cons h3 (cons I h4)⟩
 |trans _ _ R T=>
  intro g h;obtain ⟨C,q1,P⟩:=R h;obtain ⟨U,q3,q4⟩:=T P;exact ⟨U,q3.trans q1,q4⟩
theorem EW {σ:Sg} {C g:List MapEntry} (hp:C.Perm g): ∀{rows:List MRow},b8 σ C rows→ ∃rows' :List MRow,rows'.Perm rows∧b8 σ g rows' :=by
 have cons: ∀{e:MapEntry} {r:MRow} {l:List MapEntry} {m:List MRow},CV σ e r→b8 σ l m→b8 σ (e::l) (r::m):=fun I p=>⟨by simp [p.1],fun j e r J hr=>by
  cases j with
  |zero=>cases J;cases hr;exact I
  |succ j=>exact p.2 j e r (by simpa using J) (by simpa using hr)⟩
 have i: ∀{e:MapEntry} {l:List MapEntry} {m:List MRow},b8 σ (e::l) m→ ∃r m',m=r::m' ∧CV σ e r∧b8 σ l m' :=fun {e l m} h=>by
  cases m with
  |nil=>have:=h.1;simp at this
  |cons r m=>exact ⟨r,m,rfl,h.2 0 e r rfl rfl,by have:=h.1;simpa using this,fun j e' r' J hr=>h.2 (j+1) e' r' (by simpa using J) (by simpa using hr)⟩
 induction hp with
 |nil=>exact fun {rows} h=>⟨rows,.refl _,h⟩
 |cons x _ ih=>
  intro rows h;obtain ⟨e,l,rfl,I,p⟩:=i h;obtain ⟨C,q1,P⟩:=ih p;exact ⟨e::C,q1.cons e,cons I P⟩
 |swap x y l=>
  intro rows h;obtain ⟨e,l1,rfl,I,p⟩:=i h;obtain ⟨e2,l2,rfl,h3,h4⟩:=i p;exact ⟨e2::e::l2,.swap _ _ _,cons h3 (cons I h4)⟩
 |trans _ _ R T=>
  intro rows h;obtain ⟨C,q1,P⟩:=R h;obtain ⟨U,q3,q4⟩:=T P;exact ⟨U,q3.trans q1,q4⟩
theorem pW {σ:Sg} {w:World} {g id:Nat} {t:TypeId} {vs:Array Value} {rows:List MRow} (hid:cC id=true) (h:HeapAt w g id t vs) (hr:RelL σ vs.toList ([mcA rows].map AV.unown)):
  ∃i clock rows',w.heap[g]? =some (.map i clock)∧Stamped i clock∧rows'.Perm rows∧b8 σ i.toList rows' :=by
 obtain ⟨o,h1,U⟩:=h;unfold nI at U;rw [hid] at U;obtain ⟨i,clock,rfl,hst,⟨es,J,rfl⟩,C⟩:=U
 have key:b8 σ es rows:=by
  have R:Rel1 σ (KO es) (mcA rows):=hr.head;obtain ⟨us,T,P⟩:=cg R
  have p:us=es.map IF:=by
   unfold KO at T;injection T with _ _ T
   exact (List.toArray_inj T).symm
  subst p;refine ⟨by have:=P.1;simpa using this,fun j e r he hr=> ?_⟩;have h3:Rel1 σ (IF e) (.fn r.1.length (r.1++r.2)):=P.2 j _ _ (by rw [gA8,he];rfl) (by rw [gA8,hr];rfl);obtain ⟨us2,I,p⟩:=cg h3;unfold IF at I;injection I with I _ e3
  injection I with I
  have e4:us2=e.key.cells.toList++e.val.cells.toList:=by
   have:=congrArg Array.toList e3;simpa using this.symm
  subst e4;obtain ⟨q1,q2⟩:=p.split (by simpa using I);have R:=J.mem_iff.1 (gA2 he);exact ⟨q1,q2,(C e R).1,(C e R).2⟩
 obtain ⟨rows',q1,q2⟩:=EW J key;exact ⟨i,clock,rows',h1,hst,q1,q2⟩
theorem rH {σ:Sg} {w:World} {g id:Nat} {rows rows' :List MRow} {i:Array MapEntry} {clock:Nat} (hid:cC id=true) (h:w.heap[g]? =some (.map i clock)) (J:Stamped i clock) (P:rows'.Perm rows) (hr:b8 σ i.toList rows'):
  ∃vs:Array Value,HeapAt w g id 0 vs∧RelL σ vs.toList ([mcA rows].map AV.unown):=by
 obtain ⟨R,p1,p2⟩:=HH P hr;refine ⟨#[KO R],⟨_,h,?_⟩,.cons (JV ⟨by simpa using p2.1,fun j v a p C=> ?_⟩) .nil⟩
 ·unfold nI
  rw [hid];refine ⟨i,clock,rfl,J,⟨R,p1,rfl⟩,fun e I=> ?_⟩;obtain ⟨j,hj⟩:=List.getElem?_of_mem I;have T:=(gA0 hj).1;obtain ⟨_,_,q3,q4⟩:=hr.2 j e _ hj (gA1 (by rw [←hr.1];exact T));exact ⟨q3,q4⟩
 ·rw [gA8] at p C
  cases I:R[j]? with
  |none=>rw [I] at p;cases p
  |some e=>
   cases U:rows[j]? with
   |none=>rw [U] at C;cases C
   |some r=>
    rw [I] at p;rw [U] at C;cases p;cases C;obtain ⟨q1,q2,_⟩:=p2.2 j e r I U;have e1:e.key.cells.size=r.1.length:=by have:=q1.1;simpa using this
    unfold IF;rw [e1,show e.key.cells++e.val.cells=(e.key.cells.toList++e.val.cells.toList).toArray by simp];exact JV (q1.append q2)
section
variable {P:Program} {t k e:TypeId}
def KeysOk (P:Program) (k:TypeId) (rows:List MRow):Prop:= ∀r∈rows,∃v l,nj r.1=some v∧keyOf P k v=some l
theorem KeysOk.perm {rows rows' :List MRow} (h:KeysOk P k rows) (g:rows'.Perm rows):KeysOk P k rows' :=fun r hr=>h r (g.mem_iff.1 hr)
theorem zb {σ:Sg} {g:List MapEntry} {rows:List MRow} (h:b8 σ g rows) (R:KeysOk P k rows):(∀p∈g.map (fun e=>(e.key,e.val)),∃l,keyOf P k (id p.1)=some l)∧ ∀(j:Nat) e r,g[j]? =some e→rows[j]? =some r→nj r.1=some e.key:=by
 have key: ∀(j:Nat) e r,g[j]? =some e→rows[j]? =some r→nj r.1=some e.key∧ ∃l,keyOf P k e.key=some l:=fun j e r i hr=>by
  obtain ⟨q1,_,T,_⟩:=h.2 j e r i hr;obtain ⟨v,l,I,U⟩:=R r (gA2 hr);have:=wJ T q1 I;subst this;exact ⟨I,l,U⟩
 refine ⟨fun p hp=> ?_,fun j e r i hr=>(key j e r i hr).1⟩;obtain ⟨e,i,rfl⟩:=List.mem_map.1 hp;obtain ⟨j,J⟩:=List.getElem?_of_mem i;have C:=(gA0 J).1;exact (key j e _ J (gA1 (by rw [←h.1];exact C))).2
open Classical in
theorem JW {σ:Sg} {w:World} {g clock:Nat} {i:Array MapEntry} {rows:List MRow} (hb:w.heap[g]? =some (.map i clock)) (j:Stamped i clock) (h:b8 σ i.toList rows) (p:KeysOk P k rows):
  Mp P k (id:Value→Value) w g (i.toList.map fun e=>(e.key,e.val)):=⟨i,clock,hb,j,by simp,(zb h p).1⟩
theorem JX {σ:Sg} {B:Nat→Option Nat} {v:Value} {id g:Nat} (hid:cC id=true) (h:RelB1 σ B v (.np id 0)) (i:B id=some g):v= .map (some g):=by
 obtain ⟨g',j,p⟩:=h;rw [j,←p g i];unfold npV;rw [hid]
theorem Gf {σ:Sg} {B:Nat→Option Nat} {v r:Value} {κ:List AV} (h:RelB1 σ B v (ey κ)) (g:nj κ=some r):v=r:=by
 unfold nj at g;cases i:ni κ with
 |none=>rw [i] at g;cases g
 |some us=>
  rw [i] at g;simp only [Option.map_some,gB9] at g;subst g;unfold ey at h;split at h
  ·rename_i a
   obtain ⟨u,I,rfl,C,J⟩:=dC i;cases J;have j:Rel1 σ v a:=by cases a<;>first|exact h|cases C
   exact Gd j C
  ·rename_i p
   obtain ⟨vs,rfl,j⟩:=h;rw [wH j i];have:=CQ i;unfold yb;split
   ·rename_i u
    obtain ⟨c,rfl⟩:=List.length_eq_one_iff.1 this.symm;exact absurd rfl (p c)
   ·rfl
theorem RelB.ofP2 {σ:Sg} {B:Nat→Option Nat} {v:Value} {a:AV} (h:RelP σ v a) (hn:a.isTup=false):RelB σ B v a:=by
 cases a with
 |tup l=>cases hn
 |_=>exact (RelB2.ofP h:RelB2 σ B v _)
theorem JY (cs:List AV) (h: ∀c∈cs,c.isTup=false):(ey cs).isTup=false:=by
 unfold ey;split
 ·exact h _ (by simp)
 ·rfl
def Found (rows:List MRow) (κ:List AV):Option (List AV)→Prop
 |some vc=>(κ,vc)∈rows
 |none=> ∀r∈rows,r.1≠κ
open Classical in
theorem Found.perm {rows rows' :List MRow} {κ:List AV} {o:Option (List AV)} (h:Found rows κ o) (g:rows'.Perm rows):Found rows' κ o:=by
 cases o with
 |some vc=>exact g.mem_iff.2 h
 |none=>exact fun r hr=>h r (g.mem_iff.1 hr)
open Classical in
theorem LE {σ:Sg} {w:World} {g clock:Nat} {i:Array MapEntry} {rows:List MRow} (hb:w.heap[g]? =some (.map i clock)) (hst:Stamped i clock) (h:b8 σ i.toList rows) (hk:KeysOk P k rows) {κ:List AV} {U:Value} (I:nj κ=some U) {o:Option (List AV)} (ho:Found rows κ o):
  match o with
  |some vc=> ∃v,tU (i.toList.map fun e=>(e.key,e.val)) U=some v∧ph v∧RelL σ v.cells.toList vc
  |none=>tU (i.toList.map fun e=>(e.key,e.val)) U=none:=by
 have hm:=JW hb hst h hk;have J:=(zb h hk).2;cases o with
 |some vc=>
  obtain ⟨j,C⟩:=List.getElem?_of_mem (show (κ,vc)∈rows from ho);have r:=(gA0 C).1;have R:i.toList[j]? =some (i.toList[j]'(by rw [h.1];exact r)):=gA1 _;obtain ⟨_,q2,_,q4⟩:=h.2 j _ _ R C;have T:=J j _ _ R C;rw [I] at T;refine ⟨_,Gc (j:=j) hm.nodup (by rw [gA8,R,Option.some.inj T];rfl),q4,q2⟩
 |none=>
  refine y7 fun hin=> ?_
  obtain ⟨p,hp,e1⟩:=List.mem_map.1 hin;obtain ⟨e,R,rfl⟩:=List.mem_map.1 hp;obtain ⟨j,C⟩:=List.getElem?_of_mem R;have r:=(gA0 C).1;have hr:rows[j]? =some (rows[j]'(by rw [←h.1];exact r)):=gA1 _;have T:=J j _ _ C hr;have e1:e.key=U:=e1;rw [e1] at T;exact ho _ (gA2 hr) (CR T I)
open Classical in
theorem Gg {id:Nat} {rows:List MRow} {κ z:List AV} {kv zv:Value} {l:Lit} {o:Option (List AV)} (ok:Bool) (hid:cC id=true) (ht:P.underlying t=some (.map k e)) (L:Keyed P k) (hk:KeysOk P k rows) (C:nj κ=some kv) (hl:keyOf P k kv=some l)
  (hz: ∀w,(zeroValue e).run P w= .ok zv w) (hzr: ∀σ,RelP σ zv (ey z)) (ho:Found rows κ o) (I: ∀c∈o.getD z,c.isTup=false):
  MOp P (.get t ok) [(id,[mcA rows])] [.np id 0,ey κ] [(id,[mcA rows])] (match ok with|true=> .tup [ey (o.getD z),.bool o.isSome]|false=>ey (o.getD z)):=by
 refine ⟨fun σ w B vs hh hg J R hgl T hr=> ?_⟩
 obtain ⟨v1,v2,rfl⟩: ∃a b,vs= [a,b]:=by
  have:=hr.1;rcases vs with _|⟨a,_|⟨b,_|⟨c,l⟩⟩⟩<;>simp at this
  exact ⟨a,b,rfl⟩
 obtain ⟨g,ty,us,hB,hH,hR,_,hfr⟩:=T id [mcA rows] (by simp);obtain ⟨i,clock,rows',hb,U,hpm,hE⟩:=pW hid hH hR;replace hk:=hk.perm hpm;replace ho:=ho.perm hpm;have e1:=JX hid (hr.2 0 v1 _ rfl rfl) hB;have e2:=Gf (hr.2 1 v2 _ rfl rfl) C;subst e1 e2;have hM:=JW (P:=P) (k:=k) hb U hE hk;have r:=hM.run_lookup (t:=t) L (fun a c h=>h) ht hz (κ:=v2) hl ok;have p:=LE (P:=P) hb U hE hk C ho
 obtain ⟨v,hv,hrel,hso⟩: ∃v,(tU (i.toList.map fun e=>(e.key,e.val)) v2).getD zv=v∧RelP σ v (ey (o.getD z))∧(tU (i.toList.map fun e=>(e.key,e.val)) v2).isSome=o.isSome:=by
  cases o with
  |some vc=>
   obtain ⟨v,q1,q2,q3⟩:=p;exact ⟨v,by rw [q1];rfl,rG q2 q3,by rw [q1];rfl⟩
  |none=>
   have p:tU (i.toList.map fun e=>(e.key,e.val)) v2=none:=p;exact ⟨zv,by rw [p];rfl,hzr σ,by rw [p];rfl⟩
 rw [hv,hso] at r;have hnt:=JY (o.getD z) I;refine ⟨_,w,σ,(if ok=true then .tuple #[v,.bool o.isSome] else v),B,?_,rfl,(Ext.refl _ _).toK _,hh,BelowK.refl _ _,J,R,T,?_,fun id g h=> .inl ⟨id,h⟩,fun id g g' h1 h2=>by rw [h1] at h2;cases h2;rfl⟩
 ·show (do pure (Next.value (←Instr.lookup t (.map (some g)) v2 ok)):Sem Next).run P w=_
  simp only [Sem.run_bind];rw [show (Instr.lookup t (.map (some g)) v2 ok).run P w=_ from r];rfl
 ·cases ok with
  |false=>exact RelB.ofP2 hrel hnt
  |true=>
   refine ⟨[v,.bool o.isSome],rfl,rfl,fun j u x hu hx=> ?_⟩;rcases j with _|_|j<;>simp at hu hx
   ·subst hu hx;exact RelB2.ofP hrel
   ·subst hu hx;exact RelB2.ofP (show Rel1 σ _ (.bool _) from .bool _)
open Classical in
noncomputable def CW (rows:List MRow) (κ vc:List AV):List MRow:=if∃r∈rows,r.1=κ then rows.map (fun r=>if r.1=κ then (κ,vc) else r) else rows++ [(κ,vc)]
theorem HI {rows rows' :List MRow} (g:rows'.Perm rows) (κ vc:List AV):(CW rows' κ vc).Perm (CW rows κ vc):=by
 unfold CW;by_cases h: ∃r∈rows,r.1=κ
 ·rw [if_pos h,if_pos (by obtain ⟨r,i,j⟩:=h;exact ⟨r,g.mem_iff.2 i,j⟩)]
  exact g.map _
 ·rw [if_neg h,if_neg (fun p=>h (by obtain ⟨r,i,j⟩:=p;exact ⟨r,g.mem_iff.1 i,j⟩))]
  exact g.append_right _
def AM (σ:Sg) (m:List (Value×Value)) (rows:List MRow):Prop:=m.length=rows.length∧ ∀(j:Nat) p r,m[j]? =some p→rows[j]? =some r→RelL σ p.1.cells.toList r.1∧RelL σ p.2.cells.toList r.2∧ph p.1∧ph p.2
theorem wK {σ:Sg} {g:List MapEntry} {rows:List MRow}:b8 σ g rows↔AM σ (g.map fun e=>(e.key,e.val)) rows:=by
 refine ⟨fun h=>⟨by rw [List.length_map];exact h.1,fun j p r i hr=> ?_⟩,fun h=>⟨by have:=h.1;rwa [List.length_map] at this,fun j e r C hr=>h.2 j (e.key,e.val) r (by rw [gA8,C];rfl) hr⟩⟩;rw [gA8] at i;cases C:g[j]? with
 |none=>rw [C] at i;cases i
 |some e=>rw [C] at i;cases i;exact h.2 j e r C hr
open Classical in
theorem HJ {σ:Sg} {m:List (Value×Value)} {rows:List MRow} (h:AM σ m rows) (hk:KeysOk P k rows) {κ vc:List AV} {R v:Value} (hkv:nj κ=some R) (h1:ph R∧RelL σ R.cells.toList κ) (h2:ph v∧RelL σ v.cells.toList vc):AM σ (EV m R v) (CW rows κ vc):=by
 have i: ∀(j:Nat) p r,m[j]? =some p→rows[j]? =some r→(p.1=R↔r.1=κ):=fun j p r g hr=>by
  obtain ⟨q1,_,q3,_⟩:=h.2 j p r g hr;obtain ⟨u,l,k1,k2⟩:=hk r (gA2 hr);have:=wJ q3 q1 k1;subst this;exact ⟨fun e=>CR (e▸k1) hkv,fun e=>by rw [e,hkv] at k1;exact (Option.some.inj k1).symm⟩
 have T:R∈m.map (·.1)↔ ∃r∈rows,r.1=κ:=by
  constructor
  ·intro C
   obtain ⟨p,g,e⟩:=List.mem_map.1 C;obtain ⟨j,U⟩:=List.getElem?_of_mem g;have hlt:=(gA0 U).1;have hr:rows[j]? =some (rows[j]'(by rw [←h.1];exact hlt)):=gA1 _;exact ⟨_,gA2 hr,(i j p _ U hr).1 e⟩
  ·rintro ⟨r,hr,e⟩
   obtain ⟨j,U⟩:=List.getElem?_of_mem hr;have hlt:=(gA0 U).1;have g:m[j]? =some (m[j]'(by rw [h.1];exact hlt)):=gA1 _;exact List.mem_map.2 ⟨_,gA2 g,(i j _ r g U).2 e⟩
 unfold EV CW;by_cases C:R∈m.map (·.1)
 ·rw [if_pos C,if_pos (T.1 C)]
  refine ⟨by rw [List.length_map,List.length_map];exact h.1,fun j p r g hr=> ?_⟩;rw [gA8] at g hr;cases I:m[j]? with
  |none=>rw [I] at g;cases g
  |some p0=>
   cases J:rows[j]? with
   |none=>rw [J] at hr;cases hr
   |some r0=>
    rw [I] at g;rw [J] at hr;simp only [Option.map_some,gB9] at g hr;by_cases e:p0.1=R
    ·rw [if_pos e] at g
     rw [if_pos ((i j p0 r0 I J).1 e)] at hr;subst g hr;exact ⟨h1.2,h2.2,h1.1,h2.1⟩
    ·rw [if_neg e] at g
     rw [if_neg (fun e2=>e ((i j p0 r0 I J).2 e2))] at hr;subst g hr;exact h.2 j _ _ I J
 ·rw [if_neg C,if_neg (fun hx=>C (T.2 hx))]
  refine ⟨by simp [h.1],fun j p r g hr=> ?_⟩;by_cases U:j<m.length
  ·rw [gC1 U] at g
   rw [gC1 (by rw [←h.1];exact U)] at hr;exact h.2 j p r g hr
  ·rw [gC2 (by omega)] at g
   rw [gC2 (by rw [←h.1];omega),←h.1] at hr;cases hd:j-m.length with
   |zero=>
    rw [hd] at g hr;simp at g hr;subst g hr;exact ⟨h1.2,h2.2,h1.1,h2.1⟩
   |succ n=>rw [hd] at g;simp at g
theorem kj {w w' :World} {g:Nat} {K:Nat→Prop} (h:w.grownBy w' (some g)) (j:K g):BelowK K w w' :=⟨h.os,h.tape,h.output,h.size,fun i hi hn=>h.block i hi fun e=>hn (by cases e;exact j)⟩
open Classical in
theorem LF {id:Nat} {rows:List MRow} {κ vc:List AV} {kv:Value} {l:Lit} (hid:cC id=true) (ht:P.underlying t=some (.map k e)) (L:Keyed P k) (hk:KeysOk P k rows) (r:nj κ=some kv) (hl:keyOf P k kv=some l) (hc: ∀c∈vc,c.isVal=true):
  MOp P (.set t) [(id,[mcA rows])] [.np id 0,ey κ,ey vc] [(id,[mcA (CW rows κ vc)])] (.bool true):=by
 refine ⟨fun σ w B vs hh hg C I hgl hat hr=> ?_⟩
 obtain ⟨v1,v2,v3,rfl⟩: ∃a b c,vs= [a,b,c]:=by
  have:=hr.1;rcases vs with _|⟨a,_|⟨b,_|⟨c,_|⟨d,l⟩⟩⟩⟩<;>simp at this
  exact ⟨a,b,c,rfl⟩
 obtain ⟨g,ty,us,hB,hH,hR,_,J⟩:=hat id [mcA rows] (by simp);obtain ⟨ents,clock,rows',hb,hst,R,hE⟩:=pW hid hH hR;replace hk:=hk.perm R;have e1:=JX hid (hr.2 0 v1 _ rfl rfl) hB;have T:=hr.2 1 v2 _ rfl rfl;have e2:=Gf T r;obtain ⟨o2,r2⟩:=za (RelB1.val T (CU r)) fun c hc=>y9 (CU r c hc)
 obtain ⟨o3,r3⟩:=za (RelB1.val (hr.2 2 v3 _ rfl rfl) hc) fun c h=>y9 (hc c h)
 subst e1 e2;have hM:=JW (P:=P) (k:=k) hb hst hE hk;obtain ⟨w',U,hM',hgr⟩:=hM.run_update (t:=t) L (fun a c h=>h) ht (κ:=v2) hl v3;obtain ⟨ents',clock',hb',hst',hm',_⟩:=hM';have hp:=HJ (P:=P) (k:=k) (wK.1 hE) hk r ⟨o2,r2⟩ ⟨o3,r3⟩;rw [show (fun p:Value×Value=>(_root_.id p.1,p.2))=fun p=>p from rfl,List.map_id'] at hm';rw [←hm'] at hp;obtain ⟨us',q1,q2⟩:=rH (σ:=σ) hid hb' hst' (HI R κ vc) (wK.2 hp);have hKg: ∃i,B i=some g:=⟨id,hB⟩
 have hglt:g<w.heap.size:=(gC0 hb).1;refine ⟨_,w',σ,.bool true,B,?_,rfl,(Ext.refl _ _).toK _,fun b q v hv=> ?_,kj hgr hKg,fun i g' h=>by simpa [aw] using C i g' h,I,fun i cs hm=> ?_,RelB.ofP2 (show Rel1 σ _ (.bool _) from .bool _) rfl,fun i g' h=> .inl ⟨i,h⟩,fun i g1 g2 h1 T=>by rw [h1] at T;cases T;rfl⟩
 ·show (do Instr.mapUpdate t (.map (some g)) v2 v3;pure Next.skip:Sem Next).run P w=_
  simp only [Sem.run_bind];rw [show (Instr.mapUpdate t (.map (some g)) v2 v3).run P w=_ from U];rfl
 ·have hbg:b≠g:=fun e=>by subst e;rw [J q] at hv;cases hv
  have h0:=hh b q v hv;have hlt:=World.block_lt_of_cell? w _ h0;exact (World.cell?_of_block (w:=w) (a:=⟨b,q,none⟩) (hgr.block b hlt fun e=>hbg (by cases e;rfl))).trans h0
 ·simp only [List.mem_singleton,Prod.mk.injEq] at hm
  obtain ⟨rfl,rfl⟩:=hm;refine ⟨g,0,_,hB,q1,q2,fun j v a _ ha=> ?_,J⟩;rcases j with _|j
  ·simp at ha;subst ha;exact trivial
  ·simp at ha
theorem Gh {id:Nat} (hid:cC id=true):MOp P (.new t) [] [] [(id,[mcA []])] (.np id 0):=by
 refine ⟨fun σ w B vs hh hg C hinj hgl hat hr=> ?_⟩;have R:vs= []:=List.eq_nil_of_length_eq_zero hr.1;subst R;have T: ∀i g,B i≠some g:=fun i g h=>by have:=C i g h;simp [aw] at this
 have I:Below w.heap.size w (w.alloc (.map #[] 0)):=(Below.refl _ _).alloc (gA4 _) _;have J:(w.alloc (.map #[] 0)).heap[w.heap.size]? =some (.map #[] 0):=heap_alloc_new w _;obtain ⟨us',q1,q2⟩:=rH (σ:=σ) (rows:= []) hid J (stamped_empty 0) (.refl []) ⟨rfl,fun j e r he=>by simp at he⟩;refine ⟨_,w.alloc (.map #[] 0),σ,npV id w.heap.size 0,fun i=>if i=id then some w.heap.size else none,?_,rfl,(Ext.refl _ _).toK _,fun b q v hv=> ?_,BelowK.of I _,fun i g h=> ?_,fun i j g U h2=> ?_,fun i cs hm=> ?_,?_,fun i g h=> ?_,fun i g g' h=>absurd h (T i g)⟩
 ·show (do pure (Next.value (←Instr.makeMap t none)):Sem Next).run P w=_
  simp only [Sem.run_bind];rw [run_makeMap];unfold npV;rw [hid];rfl
 ·have h0:=hh b q v hv
  exact (I.cell (p:=⟨b,q,none⟩) (World.block_lt_of_cell? w _ h0)).trans h0
 ·simp only at h
  split at h
  ·rename_i e;subst e;simp [aw]
  ·cases h
 ·simp only at U h2
  split at U
  ·rename_i e1
   split at h2
   ·rename_i e2;exact e1.trans e2.symm
   ·cases h2
  ·cases U
 ·simp only [List.mem_singleton,Prod.mk.injEq] at hm
  obtain ⟨rfl,rfl⟩:=hm;refine ⟨w.heap.size,0,_,if_pos rfl,q1,q2,fun j v a hv ha=> ?_,fun j=> ?_⟩
  ·rcases j with _|j
   ·simp at ha;subst ha;exact trivial
   ·simp at ha
  ·cases hs:σ w.heap.size j with
   |none=>rfl
   |some u=>have:=World.block_lt_of_cell? w _ (hh _ _ _ hs);simp at this
 ·exact ⟨w.heap.size,rfl,fun g' h=>by simp only [if_pos] at h;cases h;rfl⟩
 ·simp only at h
  split at h
  ·cases h;exact .inr (gA4 _)
  ·cases h
theorem lf {α:Type} {p:α→Bool}: ∀{l:List α} {j:Nat} {x:α},l[j]? =some x→p x=false→(∀i y,l[i]? =some y→i≠j→p y=true)→l.eraseIdx j=l.filter p
 | [],j,x,h,_,_=>by cases h
 |y::l,0,x,h,r,g=>by
  cases h;rw [List.eraseIdx_zero,List.tail_cons,List.filter_cons,if_neg (by simp [r])];refine (List.filter_eq_self.2 fun z C=> ?_).symm;obtain ⟨i,hi⟩:=List.getElem?_of_mem C;exact g (i+1) z (by simpa using hi) (by omega)
 |y::l,j+1,x,h,r,g=>by
  rw [List.eraseIdx_cons_succ,List.filter_cons,if_pos (g 0 y rfl (by omega)),lf (l:=l) (j:=j) (by simpa using h) r fun i z hi I=>g (i+1) z (by simpa using hi) (by omega)]
theorem EY {σ:Sg} {g:List MapEntry} {rows:List MRow} (h:b8 σ g rows) (j:Nat):b8 σ (g.eraseIdx j) (rows.eraseIdx j):=by
 refine ⟨by rw [List.length_eraseIdx,List.length_eraseIdx,h.1],fun i e r p hr=> ?_⟩;rw [List.getElem?_eraseIdx] at p hr;by_cases C:i<j
 ·rw [if_pos C] at p hr;exact h.2 i e r p hr
 ·rw [if_neg C] at p hr;exact h.2 _ e r p hr
end
theorem Weak.perm {fr:Fr} {st:St} {id:Nat} {rows i:List MRow} (hid:cC id=true) (hb:st.box id=some ([mcA rows],false)) (I:rows.Perm i):Weak fr st fr {st with box:=upd st.box id (some ([mcA i],false))}:=by
 intro E G a w h;refine ⟨G,{h with box:=fun id' cs fz p=> ?_,bnone:=fun id' p=> ?_}⟩
 ·simp only at p
  rw [ax] at p;split at p
  ·rename_i e
   subst e;cases p;obtain ⟨g,J,P,t,vs,R,T,k5,U⟩:=h.box id' _ _ hb;obtain ⟨C,clock,rows',q1,q2,q3,q4⟩:=pW hid R T;obtain ⟨us,p1,p2⟩:=rH hid q1 q2 (q3.trans I) q4;refine ⟨g,J,P,0,us,p1,p2,fun j v a _ r=> ?_,U⟩;rcases j with _|j
   ·simp at r;subst r;exact trivial
   ·simp at r
  ·exact h.box id' cs fz p
 ·simp only at p
  rw [ax] at p;split at p
  ·cases p
  ·exact h.bnone id' p
end Go.Proofs.YtbgflifmanjpjaaGreatDoor
