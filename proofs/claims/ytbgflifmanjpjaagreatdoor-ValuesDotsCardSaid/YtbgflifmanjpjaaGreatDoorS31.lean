/- Part 31. -/
import Derived.Test.YtbgflifmanjpjaaGreatDoorS30
import Derived.Carry
set_option linter.unusedSimpArgs false
set_option linter.unusedVariables false
namespace Go.Proofs.YtbgflifmanjpjaaGreatDoor
open Go.RowKit Go.Maps Go.MapKept Go.ChangeMaps
def plV:AV→Option Value
 | .int k n=>some (.int k n)
 | .bool b=>some (.bool b)
 | .str s=>some (.string s)
 |_=>none
theorem Ez {σ:Sg} {v u:Value} {a:AV} (h:Rel1 σ v a) (g:plV a=some u):v=u:=by cases h<;>simp [plV] at g<;>exact g
theorem Jv {a b:AV} {u:Value} (g:plV a=some u) (hb:plV b=some u):a=b:=by
 cases a<;>simp [plV] at g<;>subst g<;>cases b<;>simp [plV] at hb<;>simp [hb]
theorem Jw {a:AV} {u:Value} (h:plV a=some u):u.oneCell' =true:=by cases a<;>simp [plV] at h<;>subst h<;>rfl
def mJ:List AV→Option (List Value)
 | []=>some []
 |a::l=>match plV a,mJ l with
  |some u,some us=>some (u::us)
  |_,_=>none
theorem dn {a:AV} {l:List AV} {us:List Value} (h:mJ (a::l)=some us): ∃u vs,us=u::vs∧plV a=some u∧mJ l=some vs:=by
 unfold mJ at h;split at h
 ·rename_i u vs g i
  cases h;exact ⟨u,vs,rfl,g,i⟩
 ·cases h
theorem vr {σ:Sg}: ∀{l:List AV} {vs us:List Value},RelL σ vs l→mJ l=some us→vs=us
 | [],vs,us,h,g=>by cases g;exact List.eq_nil_of_length_eq_zero h.1
 |a::l,vs,us,h,g=>by
  obtain ⟨u,i,rfl,j,p⟩:=dn g;cases vs with
  |nil=>have:=h.1;simp at this
  |cons v vs=>rw [Ez h.head j,vr h.tail p]
theorem Bz: ∀{a b:List AV} {us:List Value},mJ a=some us→mJ b=some us→a=b
 | [],[],_,_,_=>rfl
 | [],y::b,us,h,k=>by obtain ⟨u,vs,rfl,_,_⟩:=dn k;cases h
 |x::a,[],us,h,k=>by obtain ⟨u,vs,rfl,_,_⟩:=dn h;cases k
 |x::a,y::b,us,h,k=>by
  obtain ⟨u,vs,rfl,g,i⟩:=dn h;obtain ⟨C,j,e,p,r⟩:=dn k;cases e;rw [Jv g p,Bz i r]
theorem BA: ∀{a:List AV} {us:List Value},mJ a=some us→us.length=a.length
 | [],us,h=>by cases h;rfl
 |x::a,us,h=>by obtain ⟨u,vs,rfl,_,g⟩:=dn h;simp [BA g]
def wX (us:List Value):Value:=match us with
 | [u]=>u
 |us=> .agg us.toArray
def ed (cs:List AV):AV:=match cs with
 | [a]=>a
 |cs=> .agg cs
def mK (κ:List AV):Option Value:=(mJ κ).map wX
theorem x8 {v:Value} (h:v.oneCell' =true):v.cells= #[v]:=by cases v<;>first|rfl|cases h
theorem EA {v:Value} (h:om v):v=wX v.cells.toList:=by
 unfold om at h;cases v with
 |agg cs=>
  have i:(Value.agg cs).cells=cs:=rfl;rw [i] at h⊢;by_cases g:cs.size=1
  ·have:=h g;cases this
  ·unfold wX
   split
   ·rename_i u j
    have:=congrArg List.length j;simp at this;exact absurd this g
   ·simp
 |_=>rfl
theorem Hz {us vs:List Value} (g: ∀u∈us,u.oneCell' =true) (i: ∀u∈vs,u.oneCell' =true) (h:wX us=wX vs):us=vs:=by
 have key: ∀{us:List Value},(∀u∈us,u.oneCell' =true)→(wX us).cells.toList=us:=by
  intro us g;unfold wX;split
  ·rename_i u
   rw [x8 (g u (by simp))]
  ·simp [Value.cells]
 rw [←key g,←key i,h]
theorem vt: ∀{a:List AV} {us:List Value},mJ a=some us→ ∀u∈us,u.oneCell' =true
 | [],us,h=>by cases h;intro u i;cases i
 |x::a,us,h=>by
  obtain ⟨u,vs,rfl,j,p⟩:=dn h;intro w g;rcases gB2 g with rfl|g
  ·exact Jw j
  ·exact vt p w g
theorem BB {a b:List AV} {v:Value} (g:mK a=some v) (hb:mK b=some v):a=b:=by
 unfold mK at g hb;cases i:mJ a with
 |none=>rw [i] at g;cases g
 |some us=>
  cases j:mJ b with
  |none=>rw [j] at hb;cases hb
  |some vs=>
   rw [i] at g;rw [j] at hb;simp only [Option.map_some,gB9] at g hb;have e:=Hz (vt i) (vt j) (g.trans hb.symm);subst e;exact Bz i j
theorem vu {σ:Sg} {v j:Value} {κ:List AV} (p:om v) (h:RelL σ v.cells.toList κ) (g:mK κ=some j):v=j:=by
 unfold mK at g;cases i:mJ κ with
 |none=>rw [i] at g;cases g
 |some us=>
  rw [i] at g;simp only [Option.map_some,gB9] at g;rw [EA p,vr h i,g]
theorem qI {σ:Sg} {v:Value} {cs:List AV} (p:om v) (h:RelL σ v.cells.toList cs):RelP σ v (ed cs):=by
 rw [EA p];unfold ed;split
 ·rename_i a
  obtain ⟨u,g⟩: ∃u,v.cells.toList= [u]:=List.length_eq_one_iff.1 h.1
  rw [g] at h⊢;have j:Rel1 σ u a:=h.head;show RelP σ u a;cases a<;>first|exact j|cases j
 ·rename_i i
  have r:wX v.cells.toList= .agg v.cells:=by
   unfold wX;split
   ·rename_i u g
    rw [g] at h;obtain ⟨c,rfl⟩:=List.length_eq_one_iff.1 h.1.symm;exact absurd rfl (i c)
   ·simp
  rw [r];exact ⟨v.cells.toList,by simp,h⟩
def AV.isAgg:AV→Bool
 | .agg _=>true
 |_=>false
def AV.isVal:AV→Bool
 | .int _ _| .bool _| .str _| .lst _ _ _| .ro _| .fn _ _| .raw _| .top=>true
 |_=>false
theorem x9 {c:AV} (h:c.isVal=true):c.isAgg=false:=by cases c<;>first|rfl|cases h
theorem RelB1.val {σ:Sg} {B:Nat→Option Nat} {v:Value} {cs:List AV} (h:RelB1 σ B v (ed cs)) (g: ∀c∈cs,c.isVal=true):RelP σ v (ed cs):=by
 unfold ed at h⊢;split at h
 ·rename_i a
  have i:=g a (by simp);cases a<;>first|exact h|cases i
 ·exact h
theorem BC: ∀{a:List AV} {us:List Value},mJ a=some us→ ∀c∈a,c.isVal=true
 | [],us,_=>fun c g=>by cases g
 |x::a,us,h=>by
  obtain ⟨u,vs,rfl,i,j⟩:=dn h;intro c g;rcases gB2 g with rfl|g
  ·cases c<;>first|rfl|cases i
  ·exact BC j c g
theorem BD {κ:List AV} {i:Value} (h:mK κ=some i): ∀c∈κ,c.isVal=true:=by
 unfold mK at h;cases g:mJ κ with
 |none=>rw [g] at h;cases h
 |some us=>exact BC g
theorem ya {σ:Sg} {v:Value} {cs:List AV} (h:RelP σ v (ed cs)) (j: ∀c∈cs,c.isAgg=false):om v∧RelL σ v.cells.toList cs:=by
 unfold ed at h;split at h
 ·rename_i a
  have g:Rel1 σ v a:=by
   have p:=j a (by simp);cases a<;>first|exact h|cases p
  refine ⟨fun _=>g.one,?_⟩;rw [x8 g.one];exact .cons g .nil
 ·rename_i i
  obtain ⟨us,rfl,g⟩:=h;refine ⟨fun r=> ?_,by simpa [Value.cells] using g⟩;have:us.length=1:=by simpa [Value.cells] using r
  rw [g.1] at this;obtain ⟨c,rfl⟩:=List.length_eq_one_iff.1 this;exact absurd rfl (i c)
abbrev MRow:=List AV×List AV
def mcA (rows:List MRow):AV:= .fn 0 (rows.map fun r=> .fn r.1.length (r.1++r.2))
def LB (σ:Sg) (e:MapEntry) (r:MRow):Prop:=RelL σ e.key.cells.toList r.1∧RelL σ e.val.cells.toList r.2∧om e.key∧om e.val
def j5 (σ:Sg) (g:List MapEntry) (rows:List MRow):Prop:=g.length=rows.length∧ ∀(j:Nat) e r,g[j]? =some e→rows[j]? =some r→LB σ e r
theorem RelL.split {σ:Sg} {a b:List Value} {c d:List AV} (h:RelL σ (a++b) (c++d)) (hl:a.length=c.length):RelL σ a c∧RelL σ b d:=by
 have g:=h.take a.length;have i:=h.drop a.length;rw [List.take_left' rfl,List.take_left' hl.symm] at g;rw [List.drop_left' rfl,List.drop_left' hl.symm] at i;exact ⟨g,i⟩
theorem HA {σ:Sg} {f:FuncId} {us:List Value} {cap:List AV} (h:RelL σ us cap):Rel1 σ (.func (.func f) #[] us.toArray) (.fn f cap):=
 .fn f cap us h.1 (fun j=>us.getD j undef) (fun j v g=>by simp [List.getD,g]) fun j a i=>by
  obtain ⟨v,g,hr⟩:=h.at_ i;simp only [List.getD,g];exact hr
theorem vw {σ:Sg} {w:World} {g id:Nat} {t:TypeId} {vs:Array Value} {rows:List MRow} (hid:aW id=true) (h:HeapAt w g id t vs) (hr:RelL σ vs.toList ([mcA rows].map AV.unown)):
  ∃i clock,w.heap[g]? =some (.map i clock)∧Stamped i clock∧j5 σ i.toList rows:=by
 obtain ⟨o,h1,R⟩:=h;unfold oo at R;rw [hid] at R;obtain ⟨i,clock,rfl,T,rfl,C⟩:=R;refine ⟨i,clock,h1,T,?_⟩;have hm:Rel1 σ (Gh i) (mcA rows):=hr.head;obtain ⟨us,P,J⟩:=bY hm
 have p:us=i.toList.map Gg:=by
  unfold Gh at P;injection P with _ _ P
  exact (List.toArray_inj P).symm
 subst p;refine ⟨by have:=J.1;simpa using this,fun j e r U hr=> ?_⟩;have h3:Rel1 σ (Gg e) (.fn r.1.length (r.1++r.2)):=J.2 j _ _ (by rw [gA8,U];rfl) (by rw [gA8,hr];rfl);obtain ⟨us2,I,p⟩:=bY h3;unfold Gg at I;injection I with I _ e3
 injection I with I
 have e4:us2=e.key.cells.toList++e.val.cells.toList:=by
  have:=congrArg Array.toList e3;simpa using this.symm
 subst e4;obtain ⟨q1,q2⟩:=p.split (by simpa using I);exact ⟨q1,q2,(C e (gA2 U)).1,(C e (gA2 U)).2⟩
theorem yb {σ:Sg} {w:World} {g id:Nat} {rows:List MRow} {i:Array MapEntry} {clock:Nat} (hid:aW id=true) (h:w.heap[g]? =some (.map i clock)) (J:Stamped i clock) (hr:j5 σ i.toList rows):
  HeapAt w g id 0 #[Gh i]∧RelL σ (#[Gh i]:Array Value).toList ([mcA rows].map AV.unown):=by
 refine ⟨⟨_,h,?_⟩,.cons (HA ⟨by simpa using hr.1,fun j v a p C=> ?_⟩) .nil⟩
 ·unfold oo
  rw [hid];refine ⟨i,clock,rfl,J,rfl,fun e I=> ?_⟩;obtain ⟨j,T⟩:=List.getElem?_of_mem I;have P:=(gA0 T).1;obtain ⟨_,_,U,q4⟩:=hr.2 j e _ T (gA1 (by rw [←hr.1];exact P));exact ⟨U,q4⟩
 ·rw [gA8] at p C
  cases I:i.toList[j]? with
  |none=>rw [I] at p;cases p
  |some e=>
   cases R:rows[j]? with
   |none=>rw [R] at C;cases C
   |some r=>
    rw [I] at p;rw [R] at C;cases p;cases C;obtain ⟨q1,q2,_⟩:=hr.2 j e r I R;have e1:e.key.cells.size=r.1.length:=by have:=q1.1;simpa using this
    unfold Gg;rw [e1,show e.key.cells++e.val.cells=(e.key.cells.toList++e.val.cells.toList).toArray by simp];exact HA (q1.append q2)
section
variable {P:Program} {t k e:TypeId}
def nX (P:Program) (k:TypeId) (rows:List MRow):Prop:= ∀r∈rows,∃v l,mK r.1=some v∧keyOf P k v=some l
theorem yc {σ:Sg} {g:List MapEntry} {rows:List MRow} (h:j5 σ g rows) (R:nX P k rows):(∀p∈g.map (fun e=>(e.key,e.val)),∃l,keyOf P k (id p.1)=some l)∧ ∀(j:Nat) e r,g[j]? =some e→rows[j]? =some r→mK r.1=some e.key:=by
 have key: ∀(j:Nat) e r,g[j]? =some e→rows[j]? =some r→mK r.1=some e.key∧ ∃l,keyOf P k e.key=some l:=fun j e r i hr=>by
  obtain ⟨q1,_,T,_⟩:=h.2 j e r i hr;obtain ⟨v,l,I,U⟩:=R r (gA2 hr);have:=vu T q1 I;subst this;exact ⟨I,l,U⟩
 refine ⟨fun p hp=> ?_,fun j e r i hr=>(key j e r i hr).1⟩;obtain ⟨e,i,rfl⟩:=List.mem_map.1 hp;obtain ⟨j,J⟩:=List.getElem?_of_mem i;have C:=(gA0 J).1;exact (key j e _ J (gA1 (by rw [←h.1];exact C))).2
open Classical in
theorem HD {σ:Sg} {w:World} {g clock:Nat} {i:Array MapEntry} {rows:List MRow} (hb:w.heap[g]? =some (.map i clock)) (j:Stamped i clock) (h:j5 σ i.toList rows) (p:nX P k rows):
  Mp P k (id:Value→Value) w g (i.toList.map fun e=>(e.key,e.val)):=⟨i,clock,hb,j,by simp,(yc h p).1⟩
theorem HE {σ:Sg} {B:Nat→Option Nat} {v:Value} {id g:Nat} (hid:aW id=true) (h:RelB1 σ B v (.np id 0)) (i:B id=some g):v= .map (some g):=by
 obtain ⟨g',j,p⟩:=h;rw [j,←p g i];unfold npV;rw [hid]
theorem EB {σ:Sg} {B:Nat→Option Nat} {v r:Value} {κ:List AV} (h:RelB1 σ B v (ed κ)) (g:mK κ=some r):v=r:=by
 unfold mK at g;cases i:mJ κ with
 |none=>rw [i] at g;cases g
 |some us=>
  rw [i] at g;simp only [Option.map_some,gB9] at g;subst g;unfold ed at h;split at h
  ·rename_i a
   obtain ⟨u,I,rfl,C,J⟩:=dn i;cases J;have j:Rel1 σ v a:=by cases a<;>first|exact h|cases C
   exact Ez j C
  ·rename_i p
   obtain ⟨vs,rfl,j⟩:=h;rw [vr j i];have:=BA i;unfold wX;split
   ·rename_i u
    obtain ⟨c,rfl⟩:=List.length_eq_one_iff.1 this.symm;exact absurd rfl (p c)
   ·rfl
theorem RelB.ofP2 {σ:Sg} {B:Nat→Option Nat} {v:Value} {a:AV} (h:RelP σ v a) (hn:a.isTup=false):RelB σ B v a:=by
 cases a with
 |tup l=>cases hn
 |_=>exact (RelB2.ofP h:RelB2 σ B v _)
theorem HF (cs:List AV) (h: ∀c∈cs,c.isTup=false):(ed cs).isTup=false:=by
 unfold ed;split
 ·exact h _ (by simp)
 ·rfl
def Kj (rows:List MRow) (κ:List AV):Option (List AV)→Prop
 |some vc=>(κ,vc)∈rows
 |none=> ∀r∈rows,r.1≠κ
open Classical in
theorem Jx {σ:Sg} {w:World} {g clock:Nat} {i:Array MapEntry} {rows:List MRow} (hb:w.heap[g]? =some (.map i clock)) (hst:Stamped i clock) (h:j5 σ i.toList rows) (hk:nX P k rows) {κ:List AV} {U:Value} (I:mK κ=some U) {o:Option (List AV)} (ho:Kj rows κ o):
  match o with
  |some vc=> ∃v,sV (i.toList.map fun e=>(e.key,e.val)) U=some v∧om v∧RelL σ v.cells.toList vc
  |none=>sV (i.toList.map fun e=>(e.key,e.val)) U=none:=by
 have hm:=HD hb hst h hk;have J:=(yc h hk).2;cases o with
 |some vc=>
  obtain ⟨j,C⟩:=List.getElem?_of_mem (show (κ,vc)∈rows from ho);have r:=(gA0 C).1;have R:i.toList[j]? =some (i.toList[j]'(by rw [h.1];exact r)):=gA1 _;obtain ⟨_,q2,_,q4⟩:=h.2 j _ _ R C;have T:=J j _ _ R C;rw [I] at T;refine ⟨_,Ey (j:=j) hm.nodup (by rw [gA8,R,Option.some.inj T];rfl),q4,q2⟩
 |none=>
  refine x7 fun hin=> ?_
  obtain ⟨p,hp,e1⟩:=List.mem_map.1 hin;obtain ⟨e,R,rfl⟩:=List.mem_map.1 hp;obtain ⟨j,C⟩:=List.getElem?_of_mem R;have r:=(gA0 C).1;have hr:rows[j]? =some (rows[j]'(by rw [←h.1];exact r)):=gA1 _;have T:=J j _ _ C hr;have e1:e.key=U:=e1;rw [e1] at T;exact ho _ (gA2 hr) (BB T I)
open Classical in
theorem EC {id:Nat} {rows:List MRow} {κ z:List AV} {kv zv:Value} {l:Lit} {o:Option (List AV)} (ok:Bool) (hid:aW id=true) (ht:P.underlying t=some (.map k e)) (L:Keyed P k) (hk:nX P k rows) (C:mK κ=some kv) (hl:keyOf P k kv=some l)
  (hz: ∀w,(zeroValue e).run P w= .ok zv w) (hzr: ∀σ,RelP σ zv (ed z)) (ho:Kj rows κ o) (I: ∀c∈o.getD z,c.isTup=false):
  MOp P (.get t ok) [(id,[mcA rows])] [.np id 0,ed κ] [(id,[mcA rows])] (match ok with|true=> .tup [ed (o.getD z),.bool o.isSome]|false=>ed (o.getD z)):=by
 refine ⟨fun σ w B vs hh hg J R hgl T hr=> ?_⟩
 obtain ⟨v1,v2,rfl⟩: ∃a b,vs= [a,b]:=by
  have:=hr.1;rcases vs with _|⟨a,_|⟨b,_|⟨c,l⟩⟩⟩<;>simp at this
  exact ⟨a,b,rfl⟩
 obtain ⟨g,ty,us,hB,hH,hR,_,hfr⟩:=T id [mcA rows] (by simp);obtain ⟨i,clock,hb,U,hE⟩:=vw hid hH hR;have e1:=HE hid (hr.2 0 v1 _ rfl rfl) hB;have e2:=EB (hr.2 1 v2 _ rfl rfl) C;subst e1 e2;have hM:=HD (P:=P) (k:=k) hb U hE hk;have r:=hM.run_lookup (t:=t) L (fun a c h=>h) ht hz (κ:=v2) hl ok;have p:=Jx (P:=P) hb U hE hk C ho
 obtain ⟨v,hv,hrel,hso⟩: ∃v,(sV (i.toList.map fun e=>(e.key,e.val)) v2).getD zv=v∧RelP σ v (ed (o.getD z))∧(sV (i.toList.map fun e=>(e.key,e.val)) v2).isSome=o.isSome:=by
  cases o with
  |some vc=>
   obtain ⟨v,q1,q2,q3⟩:=p;exact ⟨v,by rw [q1];rfl,qI q2 q3,by rw [q1];rfl⟩
  |none=>
   have p:sV (i.toList.map fun e=>(e.key,e.val)) v2=none:=p;exact ⟨zv,by rw [p];rfl,hzr σ,by rw [p];rfl⟩
 rw [hv,hso] at r;have hnt:=HF (o.getD z) I;refine ⟨_,w,σ,(if ok=true then .tuple #[v,.bool o.isSome] else v),B,?_,rfl,(Ext.refl _ _).toK _,hh,BelowK.refl _ _,J,R,T,?_,fun id g h=> .inl ⟨id,h⟩,fun id g g' h1 h2=>by rw [h1] at h2;cases h2;rfl⟩
 ·show (do pure (Next.value (←Instr.lookup t (.map (some g)) v2 ok)):Sem Next).run P w=_
  simp only [Sem.run_bind];rw [show (Instr.lookup t (.map (some g)) v2 ok).run P w=_ from r];rfl
 ·cases ok with
  |false=>exact RelB.ofP2 hrel hnt
  |true=>
   refine ⟨[v,.bool o.isSome],rfl,rfl,fun j u x hu hx=> ?_⟩;rcases j with _|_|j<;>simp at hu hx
   ·subst hu hx;exact RelB2.ofP hrel
   ·subst hu hx;exact RelB2.ofP (show Rel1 σ _ (.bool _) from .bool _)
open Classical in
noncomputable def HG (rows:List MRow) (κ vc:List AV):List MRow:=if∃r∈rows,r.1=κ then rows.map (fun r=>if r.1=κ then (κ,vc) else r) else rows++ [(κ,vc)]
def zK (σ:Sg) (m:List (Value×Value)) (rows:List MRow):Prop:=m.length=rows.length∧ ∀(j:Nat) p r,m[j]? =some p→rows[j]? =some r→RelL σ p.1.cells.toList r.1∧RelL σ p.2.cells.toList r.2∧om p.1∧om p.2
theorem vz {σ:Sg} {g:List MapEntry} {rows:List MRow}:j5 σ g rows↔zK σ (g.map fun e=>(e.key,e.val)) rows:=by
 refine ⟨fun h=>⟨by rw [List.length_map];exact h.1,fun j p r i hr=> ?_⟩,fun h=>⟨by have:=h.1;rwa [List.length_map] at this,fun j e r C hr=>h.2 j (e.key,e.val) r (by rw [gA8,C];rfl) hr⟩⟩;rw [gA8] at i;cases C:g[j]? with
 |none=>rw [C] at i;cases i
 |some e=>rw [C] at i;cases i;exact h.2 j e r C hr
open Classical in
theorem Fz {σ:Sg} {m:List (Value×Value)} {rows:List MRow} (h:zK σ m rows) (hk:nX P k rows) {κ vc:List AV} {R v:Value} (hkv:mK κ=some R) (h1:om R∧RelL σ R.cells.toList κ) (h2:om v∧RelL σ v.cells.toList vc):zK σ (DE m R v) (HG rows κ vc):=by
 have i: ∀(j:Nat) p r,m[j]? =some p→rows[j]? =some r→(p.1=R↔r.1=κ):=fun j p r g hr=>by
  obtain ⟨q1,_,q3,_⟩:=h.2 j p r g hr;obtain ⟨u,l,k1,k2⟩:=hk r (gA2 hr);have:=vu q3 q1 k1;subst this;exact ⟨fun e=>BB (e▸k1) hkv,fun e=>by rw [e,hkv] at k1;exact (Option.some.inj k1).symm⟩
 have T:R∈m.map (·.1)↔ ∃r∈rows,r.1=κ:=by
  constructor
  ·intro C
   obtain ⟨p,g,e⟩:=List.mem_map.1 C;obtain ⟨j,U⟩:=List.getElem?_of_mem g;have hlt:=(gA0 U).1;have hr:rows[j]? =some (rows[j]'(by rw [←h.1];exact hlt)):=gA1 _;exact ⟨_,gA2 hr,(i j p _ U hr).1 e⟩
  ·rintro ⟨r,hr,e⟩
   obtain ⟨j,U⟩:=List.getElem?_of_mem hr;have hlt:=(gA0 U).1;have g:m[j]? =some (m[j]'(by rw [h.1];exact hlt)):=gA1 _;exact List.mem_map.2 ⟨_,gA2 g,(i j _ r g U).2 e⟩
 unfold DE HG;by_cases C:R∈m.map (·.1)
 ·rw [if_pos C,if_pos (T.1 C)]
  refine ⟨by rw [List.length_map,List.length_map];exact h.1,fun j p r g hr=> ?_⟩;rw [gA8] at g hr;cases I:m[j]? with
  |none=>rw [I] at g;cases g
  |some p0=>
   cases J:rows[j]? with
   |none=>rw [J] at hr;cases hr
   |some r0=>
    rw [I] at g;rw [J] at hr;simp only [Option.map_some,gB9] at g hr;by_cases e:p0.1=R
    ·rw [if_pos e] at g
     rw [if_pos ((i j p0 r0 I J).1 e)] at hr;subst g hr;exact ⟨h1.2,h2.2,h1.1,h2.1⟩
    ·rw [if_neg e] at g
     rw [if_neg (fun e2=>e ((i j p0 r0 I J).2 e2))] at hr;subst g hr;exact h.2 j _ _ I J
 ·rw [if_neg C,if_neg (fun hx=>C (T.2 hx))]
  refine ⟨by simp [h.1],fun j p r g hr=> ?_⟩;by_cases U:j<m.length
  ·rw [gC1 U] at g
   rw [gC1 (by rw [←h.1];exact U)] at hr;exact h.2 j p r g hr
  ·rw [gC2 (by omega)] at g
   rw [gC2 (by rw [←h.1];omega),←h.1] at hr;cases hd:j-m.length with
   |zero=>
    rw [hd] at g hr;simp at g hr;subst g hr;exact ⟨h1.2,h2.2,h1.1,h2.1⟩
   |succ n=>rw [hd] at g;simp at g
theorem j6 {w w' :World} {g:Nat} {K:Nat→Prop} (h:w.grownBy w' (some g)) (j:K g):BelowK K w w' :=⟨h.os,h.tape,h.output,h.size,fun i hi hn=>h.block i hi fun e=>hn (by cases e;exact j)⟩
open Classical in
theorem Jy {id:Nat} {rows:List MRow} {κ vc:List AV} {kv:Value} {l:Lit} (hid:aW id=true) (ht:P.underlying t=some (.map k e)) (L:Keyed P k) (hk:nX P k rows) (r:mK κ=some kv) (hl:keyOf P k kv=some l) (hc: ∀c∈vc,c.isVal=true):
  MOp P (.set t) [(id,[mcA rows])] [.np id 0,ed κ,ed vc] [(id,[mcA (HG rows κ vc)])] (.bool true):=by
 refine ⟨fun σ w B vs hh hg C I hgl hat hr=> ?_⟩
 obtain ⟨v1,v2,v3,rfl⟩: ∃a b c,vs= [a,b,c]:=by
  have:=hr.1;rcases vs with _|⟨a,_|⟨b,_|⟨c,_|⟨d,l⟩⟩⟩⟩<;>simp at this
  exact ⟨a,b,c,rfl⟩
 obtain ⟨g,ty,us,hB,hH,hR,_,J⟩:=hat id [mcA rows] (by simp);obtain ⟨ents,clock,hb,hst,hE⟩:=vw hid hH hR;have e1:=HE hid (hr.2 0 v1 _ rfl rfl) hB;have R:=hr.2 1 v2 _ rfl rfl;have e2:=EB R r;obtain ⟨o2,r2⟩:=ya (RelB1.val R (BD r)) fun c hc=>x9 (BD r c hc)
 obtain ⟨o3,r3⟩:=ya (RelB1.val (hr.2 2 v3 _ rfl rfl) hc) fun c h=>x9 (hc c h)
 subst e1 e2;have hM:=HD (P:=P) (k:=k) hb hst hE hk;obtain ⟨w',T,hM',U⟩:=hM.run_update (t:=t) L (fun a c h=>h) ht (κ:=v2) hl v3;obtain ⟨ents',clock',hb',hst',hm',_⟩:=hM';have hp:=Fz (P:=P) (k:=k) (vz.1 hE) hk r ⟨o2,r2⟩ ⟨o3,r3⟩;rw [show (fun p:Value×Value=>(_root_.id p.1,p.2))=fun p=>p from rfl,List.map_id'] at hm';rw [←hm'] at hp;obtain ⟨q1,q2⟩:=yb (σ:=σ) hid hb' hst' (vz.2 hp);have hKg: ∃i,B i=some g:=⟨id,hB⟩
 have hglt:g<w.heap.size:=(gC0 hb).1;refine ⟨_,w',σ,.bool true,B,?_,rfl,(Ext.refl _ _).toK _,fun b q v hv=> ?_,j6 U hKg,fun i g' h=>by simpa [aL] using C i g' h,I,fun i cs hm=> ?_,RelB.ofP2 (show Rel1 σ _ (.bool _) from .bool _) rfl,fun i g' h=> .inl ⟨i,h⟩,fun i g1 g2 h1 R=>by rw [h1] at R;cases R;rfl⟩
 ·show (do Instr.mapUpdate t (.map (some g)) v2 v3;pure Next.skip:Sem Next).run P w=_
  simp only [Sem.run_bind];rw [show (Instr.mapUpdate t (.map (some g)) v2 v3).run P w=_ from T];rfl
 ·have hbg:b≠g:=fun e=>by subst e;rw [J q] at hv;cases hv
  have h0:=hh b q v hv;have hlt:=World.block_lt_of_cell? w _ h0;exact (World.cell?_of_block (w:=w) (a:=⟨b,q,none⟩) (U.block b hlt fun e=>hbg (by cases e;rfl))).trans h0
 ·simp only [List.mem_singleton,Prod.mk.injEq] at hm
  obtain ⟨rfl,rfl⟩:=hm;refine ⟨g,0,_,hB,q1,q2,fun j v a hv ha=> ?_,J⟩;rcases j with _|j
  ·simp at ha;subst ha;exact trivial
  ·simp at ha
theorem Jz {id:Nat} (hid:aW id=true):MOp P (.new t) [] [] [(id,[mcA []])] (.np id 0):=by
 refine ⟨fun σ w B vs hh hg C hinj hgl hat hr=> ?_⟩;have R:vs= []:=List.eq_nil_of_length_eq_zero hr.1;subst R;have T: ∀i g,B i≠some g:=fun i g h=>by have:=C i g h;simp [aL] at this
 have I:Below w.heap.size w (w.alloc (.map #[] 0)):=(Below.refl _ _).alloc (gA4 _) _;have J:(w.alloc (.map #[] 0)).heap[w.heap.size]? =some (.map #[] 0):=heap_alloc_new w _;obtain ⟨q1,q2⟩:=yb (σ:=σ) (rows:= []) hid J (stamped_empty 0) ⟨rfl,fun j e r he=>by simp at he⟩;refine ⟨_,w.alloc (.map #[] 0),σ,npV id w.heap.size 0,fun i=>if i=id then some w.heap.size else none,?_,rfl,(Ext.refl _ _).toK _,fun b q v hv=> ?_,BelowK.of I _,fun i g h=> ?_,fun i j g U h2=> ?_,fun i cs hm=> ?_,?_,fun i g h=> ?_,fun i g g' h=>absurd h (T i g)⟩
 ·show (do pure (Next.value (←Instr.makeMap t none)):Sem Next).run P w=_
  simp only [Sem.run_bind];rw [run_makeMap];unfold npV;rw [hid];rfl
 ·have h0:=hh b q v hv
  exact (I.cell (p:=⟨b,q,none⟩) (World.block_lt_of_cell? w _ h0)).trans h0
 ·simp only at h
  split at h
  ·rename_i e;subst e;simp [aL]
  ·cases h
 ·simp only at U h2
  split at U
  ·rename_i e1
   split at h2
   ·rename_i e2;exact e1.trans e2.symm
   ·cases h2
  ·cases U
 ·simp only [List.mem_singleton,Prod.mk.injEq] at hm
  obtain ⟨rfl,rfl⟩:=hm;refine ⟨w.heap.size,0,_,if_pos rfl,q1,q2,fun j v a hv ha=> ?_,fun j=> ?_⟩
  ·rcases j with _|j
   ·simp at ha;subst ha;exact trivial
   ·simp at ha
  ·cases hs:σ w.heap.size j with
   |none=>rfl
   |some u=>have:=World.block_lt_of_cell? w _ (hh _ _ _ hs);simp at this
 ·exact ⟨w.heap.size,rfl,fun g' h=>by simp only [if_pos] at h;cases h;rfl⟩
 ·simp only at h
  split at h
  ·cases h;exact .inr (gA4 _)
  ·cases h
theorem kH {α:Type} {p:α→Bool}: ∀{l:List α} {j:Nat} {x:α},l[j]? =some x→p x=false→(∀i y,l[i]? =some y→i≠j→p y=true)→l.eraseIdx j=l.filter p
 | [],j,x,h,_,_=>by cases h
 |y::l,0,x,h,r,g=>by
  cases h;rw [List.eraseIdx_zero,List.tail_cons,List.filter_cons,if_neg (by simp [r])];refine (List.filter_eq_self.2 fun z C=> ?_).symm;obtain ⟨i,hi⟩:=List.getElem?_of_mem C;exact g (i+1) z (by simpa using hi) (by omega)
 |y::l,j+1,x,h,r,g=>by
  rw [List.eraseIdx_cons_succ,List.filter_cons,if_pos (g 0 y rfl (by omega)),kH (l:=l) (j:=j) (by simpa using h) r fun i z hi I=>g (i+1) z (by simpa using hi) (by omega)]
theorem DG {σ:Sg} {g:List MapEntry} {rows:List MRow} (h:j5 σ g rows) (j:Nat):j5 σ (g.eraseIdx j) (rows.eraseIdx j):=by
 refine ⟨by rw [List.length_eraseIdx,List.length_eraseIdx,h.1],fun i e r p hr=> ?_⟩;rw [List.getElem?_eraseIdx] at p hr;by_cases C:i<j
 ·rw [if_pos C] at p hr;exact h.2 i e r p hr
 ·rw [if_neg C] at p hr;exact h.2 _ e r p hr
end
end Go.Proofs.YtbgflifmanjpjaaGreatDoor
