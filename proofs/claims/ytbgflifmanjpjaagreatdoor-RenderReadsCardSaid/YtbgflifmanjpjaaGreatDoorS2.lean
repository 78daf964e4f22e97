/- Part 2. -/
import Derived.Test.YtbgflifmanjpjaaGreatDoorS1
import Derived.MapKept
set_option linter.unusedSimpArgs false
set_option linter.unusedVariables false
namespace Go.Proofs.YtbgflifmanjpjaaGreatDoor
section
open Go.RowKit
inductive Tag where
 |nil
 |full
 |own (s v:Nat)
 |any
inductive AV where
 |int (k:IntKind) (n:Int)
 |bool (b:Bool)
 |str (s:ByteArray)
 |lst (t:Tag) (esz:Nat) (l:List (List AV))
 |ro (cs:List AV)
 |fn (f:FuncId) (cap:List AV)
 |raw (v:Value)
 |agg (cs:List AV)
 |tup (l:List AV)
 |ptr (id off:Nat)
 |when (c:Bool) (a:AV)
 |top
 |sli (id esz n cap:Nat)
 |pel (id esz i k:Nat) (c:List AV)
 |frs (key esz:Nat) (rows:List (List AV))
 |np (id off:Nat)
instance:Inhabited AV:=⟨.bool false⟩
abbrev Sg:=Nat→Nat→Option Value
def Sg.le (σ σ' :Sg):Prop:= ∀b o v,σ b o=some v→σ' b o=some v
theorem Sg.le.refl (σ:Sg):σ.le σ:=fun _ _ _ h=>h
theorem Sg.le.trans {a b c:Sg} (h:a.le b) (k:b.le c):a.le c:=fun x o v g=>k x o v (h x o v g)
def IC (t:Tag) (A:Option Addr) (n cap:Nat):Prop:=
 match t with
 | .nil=>A=none∧n=0∧cap=0
 | .full=>cap=n
 | .own _ _=>False
 | .any=>True
inductive Rel1 (σ:Sg):Value→AV→Prop where
 |int (k:IntKind) (n:Int):Rel1 σ (.int k n) (.int k n)
 |bool (b:Bool):Rel1 σ (.bool b) (.bool b)
 |str (s:ByteArray):Rel1 σ (.string s) (.str s)
 |raw (v:Value) (h:v.oneCell' =true):Rel1 σ v (.raw v)
 |lst (t:Tag) (esz:Nat) (l:List (List AV)) (A:Option Addr) (n cap b o:Nat) (f:Nat→Nat→Value) (hn:n=l.length) (hlen:n≤cap) (hA:0<n→A=some ⟨b,o,none⟩)
  (hsz: ∀(i:Nat) (c:List AV),l[i]? =some c→c.length=esz) (hσ: ∀i j,i<n→j<esz→σ b (o+i*esz+j)=some (f i j))
  (hr: ∀(i j:Nat) (c:List AV) (a:AV),l[i]? =some c→c[j]? =some a→Rel1 σ (f i j) a) (ht:IC t A n cap):Rel1 σ (.slice A n cap) (.lst t esz l)
 |ro (cs:List AV) (b o:Nat) (f:Nat→Value) (hσ: ∀j,j<cs.length→σ b (o+j)=some (f j)) (hr: ∀(j:Nat) (a:AV),cs[j]? =some a→Rel1 σ (f j) a):
  Rel1 σ (.pointer (some ⟨b,o,none⟩)) (.ro cs)
 |fn (f:FuncId) (cap:List AV) (vs:List Value) (hl:vs.length=cap.length) (g:Nat→Value) (hg: ∀(j:Nat) (v:Value),vs[j]? =some v→v=g j) (hr: ∀(j:Nat) (a:AV),cap[j]? =some a→Rel1 σ (g j) a):
  Rel1 σ (.func (.func f) #[] vs.toArray) (.fn f cap)
 |top (v:Value) (h:v.oneCell' =true):Rel1 σ v .top
theorem Rel1.mono {σ σ' :Sg} (p:σ.le σ') {v:Value} {a:AV} (h:Rel1 σ v a):Rel1 σ' v a:=by
 induction h with
 |int k n=>exact .int k n
 |bool b=>exact .bool b
 |str s=>exact .str s
 |raw v h=>exact .raw v h
 |lst t esz l A n cap b o f hn hlen hA hsz r hr ht ih=>exact .lst t esz l A n cap b o f hn hlen hA hsz (fun i j hi C=>p _ _ _ (r i j hi C)) ih ht
 |ro cs b o f r hr ih=>exact .ro cs b o f (fun j C=>p _ _ _ (r j C)) ih
 |fn f cap vs hl g hg hr ih=>exact .fn f cap vs hl g hg ih
 |top v h=>exact .top v h
theorem Rel1.one {σ:Sg} {v:Value} {a:AV} (h:Rel1 σ v a):v.oneCell' =true:=by
 cases h<;>first|rfl|assumption
def RelL (σ:Sg) (vs:List Value) (cs:List AV):Prop:=vs.length=cs.length∧ ∀(j:Nat) v a,vs[j]? =some v→cs[j]? =some a→Rel1 σ v a
theorem RelL.nil {σ:Sg}:RelL σ [] []:=⟨rfl,fun j v a h=>by simp at h⟩
theorem RelL.cons {σ:Sg} {v:Value} {a:AV} {vs:List Value} {cs:List AV} (h:Rel1 σ v a) (p:RelL σ vs cs):RelL σ (v::vs) (a::cs):=by
 refine ⟨by simp [p.1],fun j u x g i=> ?_⟩;cases j with
 |zero=>simp at g i;subst g i;exact h
 |succ j=>exact p.2 j u x (by simpa using g) (by simpa using i)
theorem RelL.head {σ:Sg} {v:Value} {a:AV} {vs:List Value} {cs:List AV} (h:RelL σ (v::vs) (a::cs)):Rel1 σ v a:=h.2 0 v a rfl rfl
theorem RelL.tail {σ:Sg} {v:Value} {a:AV} {vs:List Value} {cs:List AV} (h:RelL σ (v::vs) (a::cs)):RelL σ vs cs:=
 ⟨by simpa using h.1,fun j u x g i=>h.2 (j+1) u x (by simpa using g) (by simpa using i)⟩
theorem RelL.mono {σ σ' :Sg} (g:σ.le σ') {vs:List Value} {cs:List AV} (h:RelL σ vs cs):RelL σ' vs cs:=⟨h.1,fun j v a i p=>(h.2 j v a i p).mono g⟩
theorem RelL.append {σ:Sg} {vs g:List Value} {cs i:List AV} (h:RelL σ vs cs) (C:RelL σ g i):RelL σ (vs++g) (cs++i):=by
 refine ⟨by simp [h.1,C.1],fun j v a p r=> ?_⟩;by_cases I:j<vs.length
 ·rw [gC1 I] at p
  rw [gC1 (by rw [←h.1];exact I)] at r;exact h.2 j v a p r
 ·rw [gC2 (by omega)] at p
  rw [gC2 (by rw [←h.1];omega),←h.1] at r;exact C.2 _ v a p r
theorem RelL.one {σ:Sg} {vs:List Value} {cs:List AV} (h:RelL σ vs cs): ∀v∈vs,v.oneCell' =true:=by
 intro v i;obtain ⟨j,g⟩:=List.getElem?_of_mem i;have hl:=(gA0 g).1;exact (h.2 j v _ g (gA1 (by rw [←h.1];exact hl))).one
theorem RelL.at_ {σ:Sg} {vs:List Value} {cs:List AV} (h:RelL σ vs cs) {j:Nat} {a:AV} (g:cs[j]? =some a): ∃v,vs[j]? =some v∧Rel1 σ v a:=by
 have hl:=(gA0 g).1;have:vs[j]? =some (vs[j]'(by rw [h.1];exact hl)):=gA1 _;exact ⟨_,this,h.2 j _ a this g⟩
theorem RelL.drop {σ:Sg} {vs:List Value} {cs:List AV} (h:RelL σ vs cs) (k:Nat):RelL σ (vs.drop k) (cs.drop k):=
 ⟨by simp [h.1],fun j v a g i=>h.2 (k+j) v a (by simpa using g) (by simpa using i)⟩
theorem RelL.take {σ:Sg} {vs:List Value} {cs:List AV} (h:RelL σ vs cs) (k:Nat):RelL σ (vs.take k) (cs.take k):=by
 refine ⟨by simp [h.1],fun j v a g i=> ?_⟩;rw [List.getElem?_take] at g i;split at g
 ·rw [if_pos (by assumption)] at i;exact h.2 j v a g i
 ·cases g
def AV.unown:AV→AV
 | .lst (.own _ _) esz l=> .lst .any esz l
 | .sli _ _ _ _=> .top
 | .frs _ _ _=> .top
 | .np _ _=> .top
 |a=>a
def AV.plain:AV→AV
 | .lst _ esz l=> .lst .any esz l
 | .sli _ _ _ _=> .top
 | .frs _ _ _=> .top
 | .np _ _=> .top
 |a=>a
theorem Rel1.plain {σ:Sg} {v:Value} {a:AV} (h:Rel1 σ v a):Rel1 σ v a.plain:=by
 cases h with
 |lst t esz l A n cap b o f hn hlen hA hsz i hr ht=>exact .lst .any esz l A n cap b o f hn hlen hA hsz i hr trivial
 |int k n=>exact .int k n
 |bool b=>exact .bool b
 |str s=>exact .str s
 |raw v h=>exact .raw v h
 |ro cs b o f i hr=>exact .ro cs b o f i hr
 |fn f cap vs hl g hg hr=>exact .fn f cap vs hl g hg hr
 |top v h=>exact .top v h
theorem cD (a:AV):a.unown.plain=a.plain:=by
 cases a<;>try rfl
 rename_i t esz l;cases t<;>rfl
theorem Rel1.unown {σ:Sg} {v:Value} {a:AV} (h:Rel1 σ v a):a.unown=a:=by
 cases h<;>try rfl
 rename_i t esz l A n cap b o f hn hlen hA hsz g hr ht;cases t<;>first|rfl|exact ht.elim
theorem RelL.plain {σ:Sg} {vs:List Value} {cs:List AV} (h:RelL σ vs cs):RelL σ vs (cs.map AV.plain):=by
 refine ⟨by simp [h.1],fun j v a p g=> ?_⟩;rw [gA8] at g;cases i:cs[j]? with
 |none=>rw [i] at g;cases g
 |some c=>
  rw [i] at g;cases g;exact (h.2 j v c p i).plain
def RelP (σ:Sg) (v:Value) (a:AV):Prop:=
 match a with
 | .agg cs=> ∃vs:List Value,v= .agg vs.toArray∧RelL σ vs cs
 |a=>Rel1 σ v a
def AV.isTup:AV→Bool
 | .tup _=>true
 |_=>false
def RelR (σ:Sg) (v:Value) (a:AV):Prop:=
 match a with
 | .tup l=> ∃vs:List Value,v= .tuple vs.toArray∧vs.length=l.length∧ ∀(j:Nat) u x,vs[j]? =some u→l[j]? =some x→RelP σ u x
 |a=>RelP σ v a
theorem RelP.mono {σ σ' :Sg} (g:σ.le σ') {v:Value} {a:AV} (h:RelP σ v a):RelP σ' v a:=by
 cases a<;>simp only [RelP] at h⊢ <;>first
  |exact h.mono g
  |(obtain ⟨vs,rfl,h⟩:=h;exact ⟨vs,rfl,h.mono g⟩)
def RelPs (σ:Sg) (vs:List Value) (as:List AV):Prop:=vs.length=as.length∧ ∀(j:Nat) v a,vs[j]? =some v→as[j]? =some a→RelP σ v a
theorem RelPs.mono {σ σ' :Sg} (g:σ.le σ') {vs:List Value} {as:List AV} (h:RelPs σ vs as):RelPs σ' vs as:=⟨h.1,fun j v a i p=>(h.2 j v a i p).mono g⟩
def Holds (σ:Sg) (w:World):Prop:= ∀b o v,σ b o=some v→w.cell? ⟨b,o,none⟩=some v
def Ext (σ σ' :Sg) (n:Nat):Prop:=σ.le σ' ∧ ∀b o,b<n→σ' b o=σ b o
theorem Ext.refl (σ:Sg) (n:Nat):Ext σ σ n:=⟨.refl σ,fun _ _ _=>rfl⟩
def ab (P:Program) (f:FuncId):Bool:=
 match P.funcs[f]? with
 |some fn=>fn.body.isSome&&fn.name != "runtime.NumGoroutine"
 |none=>false
structure AC (P:Program) (f:FuncId) (args:List AV) (r:AV):Prop where
 cb:ab P f=true
 run: ∀(σ:Sg) (w:World) (vs:List Value),Holds σ w→RelPs σ vs args→GW w→
  Calls P f vs.toArray w fun e w' => ∃σ' v,e= .returned v∧Ext σ σ' w.heap.size∧Holds σ' w' ∧Below w.heap.size w w' ∧RelR σ' v r
end
section
open Go.RowKit
inductive Opd where
 |s (n:Nat)
 |k (a:AV)
inductive MO where
 |get (t:TypeId) (ok:Bool)
 |set (t:TypeId)
 |new (t:TypeId)
 |del (t k ty:TypeId)
 |len (t ty:TypeId)
 |bld (t:TypeId)
inductive AI where
 |mov (d:Nat) (x:Opd)
 |pick (d:Nat) (c a b:Opd)
 |box (d:Nat) (x:Opd)
 |alloc (d:Nat) (z:List AV)
 |ld (d n:Nat) (agg:Bool) (p:Opd)
 |st (n:Nat) (p x:Opd)
 |off (d k:Nat) (p:Opd)
 |b2s (d:Nat) (x:Opd)
 |offi (d n esz:Nat) (p i:Opd)
 |idx (d esz:Nat) (x i:Opd)
 |bin (d:Nat) (op:BinOp) (bt:Bool) (x y:Opd)
 |un (d:Nat) (op:UnOp) (x:Opd)
 |build (d:Nat) (z:List AV) (ps:List (Nat×Nat×Opd))
 |bsl (d n esz:Nat) (z:List AV) (ps:List (Nat×Nat×Opd))
 |len (d:Nat) (s:Bool) (x:Opd)
 |app (d esz bytes:Nat) (x y:Opd)
 |appr (d esz bytes:Nat) (x y:Opd)
 |ext (d i:Nat) (x:Opd)
 |call (d:Option Nat) (f:Opd) (args:List Opd)
 |callr (d:Option Nat) (f:Opd) (args:List Opd)
 |callo (d:Option Nat) (f:Opd) (args:List Opd)
 |calls (d:Option Nat) (f:Opd) (args:List Opd)
 |mop (o:MO) (d:Option Nat) (args:List Opd)
 |rng (t:TypeId) (d:Nat) (x:Opd)
 |nxt (d:Nat) (x:Opd)
 |ent (d:Nat) (x:Opd)
 |sub (d:Nat) (s:Bool) (esz:Nat) (x:Opd) (lo hi:Option Opd)
 |bidx (d:Nat) (x i:Opd)
 |mx (d:Nat) (m:Bool) (x y:Opd)
 |conv (d:Nat) (k:IntKind) (x:Opd)
 |mkfn (d f:Nat) (cap:List Opd)
 |eqs (d:Nat) (neg:Bool) (t:TypeId) (x y:Opd)
structure GI where
 g:Option (Nat×Bool)
 i:AI
inductive RS where
 |v (a:AV)
 |c (cs:List AV)
 |f (esz:Nat) (rows:List (List AV))
 |o (esz:Nat) (rows:List (List AV))
 |m (rows rows' :List (List AV))
 |n (esz:Nat) (rows:List (List AV))
 |b (rows:List (List AV)) (r:AV)
 |s (ids:List Nat) (S:List (Nat×List AV)) (r:AV)
 |t (esz:Nat) (rows:List (List AV)) (as:List AV)
 |k (ids ks:List Nat) (S:List (Nat×List AV)) (ks' :List Nat) (r:AV)
structure St where
 box:Nat→Option (List AV×Bool)
 row:Nat→Nat
abbrev Fr:=Nat→Option AV
def cC (id:Nat):Bool:=Nat.ble 900000 (id%1000000)
def ew (id:Nat):Bool:=Nat.ble 800000 (id%1000000)
def kd (id:Nat):Bool×Bool:=(cC id,ew id)
theorem Bl {s:Nat} {p:Prop} (h:ew s=false):ew s=true→p:=fun e=>by rw [h] at e;cases e
theorem ID {i j:Nat} (h:kd i=kd j):cC i=cC j:=congrArg Prod.fst h
theorem Mb {i j:Nat} (h:kd i=kd j):ew i=ew j:=congrArg Prod.snd h
def St.cbox (st:St) (id:Nat):Option (List AV×Bool):=match cC id with
 |true=>none
 |false=>st.box id
theorem az {st:St} {id:Nat} {x:List AV×Bool} (h:st.cbox id=some x):st.box id=some x∧cC id=false:=by
 unfold St.cbox at h;cases g:cC id with
 |true=>rw [g] at h;cases h
 |false=>rw [g] at h;exact ⟨h,rfl⟩
theorem fV {st:St} {id:Nat} {x:List AV×Bool} (g:cC id=false) (h:st.box id=some x):st.cbox id=some x:=by
 unfold St.cbox;rw [g];exact h
theorem Nu {id:Nat} (h:ew id=false):cC id=false:=by
 unfold cC;unfold ew at h;cases hb:Nat.ble 900000 (id%1000000) with
 |false=>rfl
 |true=>
  have g:=Nat.le_of_ble_eq_true hb;rw [Nat.ble_eq_true_of_le (show 800000≤id%1000000 by omega)] at h;cases h
theorem pf {id:Nat} (h:id<800000):ew id=false:=by
 unfold ew;rw [Nat.mod_eq_of_lt (by omega)];cases hb:Nat.ble 800000 id with
 |false=>rfl
 |true=>have:=Nat.le_of_ble_eq_true hb;omega
theorem uu {id:Nat} (h:id<800000):cC id=false:=by
 unfold cC;rw [Nat.mod_eq_of_lt (by omega)];cases hb:Nat.ble 900000 id with
 |false=>rfl
 |true=>have:=Nat.le_of_ble_eq_true hb;omega
def upd {α:Type} (f:Nat→α) (i:Nat) (v:α):Nat→α:=fun j=>bif Nat.beq j i then v else f j
theorem cf {α:Type} (f:Nat→α) (i:Nat) (v:α):upd f i v i=v:=by simp [upd]
theorem uv {i j:Nat} (h:j≠i):Nat.beq j i=false:=by
 cases hb:Nat.beq j i with
 |false=>rfl
 |true=>exact absurd (Nat.eq_of_beq_eq_true hb) h
theorem cU {α:Type} (f:Nat→α) {i j:Nat} (v:α) (h:j≠i):upd f i v j=f j:=by simp [upd,uv h]
theorem ax {α:Type} (f:Nat→α) (i j:Nat) (v:α):upd f i v j=if j=i then v else f j:=by
 by_cases h:j=i
 ·subst h;simp [upd]
 ·rw [cU f v h,if_neg h]
def Opd.ev (fr:Fr):Opd→Option AV
 | .s n=>fr n
 | .k a=>some a
def evs (fr:Fr):List Opd→Option (List AV)
 | []=>some []
 |x::l=>match x.ev fr,evs fr l with
  |some a,some as=>some (a::as)
  |_,_=>none
def AV.vcells:AV→Option (List AV)
 | .agg cs=>some cs
 | .tup _=>none
 | .ptr _ _=>none
 | .when _ _=>none
 | .pel _ _ _ _ _=>none
 |a=>some [a]
def AV.arg:AV→Option AV
 | .agg cs=>some (.agg (cs.map AV.plain))
 | .tup _=>none
 | .ptr _ _=>none
 | .when _ _=>none
 | .pel _ _ _ _ _=>none
 | .sli _ _ _ _=>none
 | .frs _ _ _=>none
 | .np _ _=>none
 |a=>some a.plain
def ez:List AV→Option (List AV)
 | []=>some []
 |a::l=>match a.arg,ez l with
  |some x,some xs=>some (x::xs)
  |_,_=>none
def nG:Nat→List AV→Option (List AV)
 |0,_=>some []
 |n+1,a::l=>match nG n l with
  |some r=>some (a::r)
  |none=>none
 |_+1,[]=>none
def nH:Nat→List AV→Option (List AV)
 |0,l=>some l
 |n+1,_::l=>nH n l
 |_+1,[]=>none
def splice:Nat→List AV→List AV→Option (List AV)
 |_,[],l=>some l
 |0,x::xs,_::l=>match splice 0 xs l with
  |some r=>some (x::r)
  |none=>none
 |n+1,x::xs,a::l=>match splice n (x::xs) l with
  |some r=>some (a::r)
  |none=>none
 |_,_::_,[]=>none
def sg (fr:Fr):List AV→List (Nat×Nat×Opd)→Option (List AV)
 |cells,[]=>some cells
 |cells,(off,size,x)::ps=>match x.ev fr with
  |some a=>match a.vcells with
   |some cs=>match Nat.beq cs.length size with
    |true=>match splice off cs cells with
     |some g=>sg fr g ps
     |none=>none
    |false=>none
   |none=>none
  |none=>none
def FH (esz:Nat):Nat→List AV→Option (List (List AV))
 |0,[]=>some []
 |0,_::_=>none
 |n+1,l=>match nG esz l,nH esz l with
  |some c,some g=>match FH esz n g with
   |some r=>some (c.map AV.plain::r)
   |none=>none
  |_,_=>none
def xz:Nat→List AV→Option AV
 |0,a::_=>some a
 |n+1,_::l=>xz n l
 |_,[]=>none
def DR (op:BinOp) (k:IntKind) (a b:Int):Option (AV×Prop):=
 match op with
 | .add=>some (.int k (k.wrap (a+b)),True)
 | .sub=>some (.int k (k.wrap (a-b)),True)
 | .mul=>some (.int k (k.wrap (a*b)),True)
 | .quo=>some (.int k (k.wrap (a.tdiv b)),b≠0)
 | .rem=>some (.int k (a.tmod b),b≠0)
 | .and=>some (.int k (bits .and k a b),True)
 | .or=>some (.int k (bits .or k a b),True)
 | .xor=>some (.int k (bits .xor k a b),True)
 | .eql=>some (.bool (decide (a=b)),True)
 | .neq=>some (.bool (!decide (a=b)),True)
 | .lss=>some (.bool (decide (a<b)),True)
 | .leq=>some (.bool (decide (a≤b)),True)
 | .gtr=>some (.bool (decide (a>b)),True)
 | .geq=>some (.bool (decide (a≥b)),True)
 |_=>none
def DS (op:BinOp) (a b:ByteArray):Option (AV×Prop):=
 match op with
 | .add=>some (.str (a++b),((a.size+b.size:Nat):Int)≤9223372036854775807)
 | .eql=>some (.bool (decide (a=b)),True)
 | .neq=>some (.bool (!decide (a=b)),True)
 | .lss=>some (.bool (Op.bytesLess a.toList b.toList),True)
 | .leq=>some (.bool (!Op.bytesLess b.toList a.toList),True)
 | .gtr=>some (.bool (Op.bytesLess b.toList a.toList),True)
 | .geq=>some (.bool (!Op.bytesLess a.toList b.toList),True)
 |_=>none
def zz (op:BinOp) (a b:Bool):Option (AV×Prop):=
 match op with
 | .eql=>some (.bool (a==b),True)
 | .neq=>some (.bool (a !=b),True)
 |_=>none
def DT (k k' :IntKind):Bool:=Nat.beq k.ctorIdx k'.ctorIdx
def IE (op:BinOp) (bt:Bool):AV→AV→Option (AV×Prop)
 | .int k a,.int k' b=>match op with
  | .shl=>some (.int k (k.wrap (a*2^(min b.toNat k.bits))),0≤b)
  | .shr=>some (.int k (a.fdiv (2^(min b.toNat k.bits))),0≤b)
  |op=>match DT k k' with
   |true=>DR op k a b
   |false=>none
 | .str a,.str b=>DS op a b
 | .bool a,.bool b=>match bt with
  |true=>zz op a b
  |false=>none
 |_,_=>none
def Nv (op:UnOp):AV→Option AV
 | .bool b=>match op with
  | .not=>some (.bool (!b))
  |_=>none
 | .int k a=>match op with
  | .neg=>some (.int k (k.wrap (0-a)))
  |_=>none
 |_=>none
def uH (st:St) (t:Tag):Prop:=
 match t with
 | .own s v=>(st.row s,ew s)=(v,false)
 | .any=>False
 |_=>True
def jJ (st:St) (d:Nat) (t:Tag):Tag:=
 match t with
 | .own s v=> .own s (v+1)
 |_=> .own d (st.row d+1)
def jK (st:St) (d:Nat) (t:Tag):Nat→Nat:=
 match t with
 | .own s v=>upd st.row s (v+1)
 |_=>upd st.row d (st.row d+1)
def Mz (t:Tag) (l m:List (List AV)):Prop:=
 match t with
 | .full=>l.length=0∨0<m.length
 |_=>True
def uI (t:Tag) (g esz:Nat):Prop:=
 match t with
 | .nil=>True
 |_=>g=esz
def freeze (st:St) (fr:Fr):List Opd→Option (List AV×St)
 | []=>some ([],st)
 |x::l=>match x.ev fr with
  |some (.ptr id off)=>match st.cbox id with
   |some (cs,_)=>match nH off cs with
    |some g=>match freeze {st with box:=upd st.box id (some (cs,true))} fr l with
     |some (r,st')=>some (.ro (g.map AV.plain)::r,st')
     |none=>none
    |none=>none
   |none=>none
  |some (.agg _)=>none
  |some (.tup _)=>none
  |some (.when _ _)=>none
  |some (.pel _ _ _ _ _)=>none
  |some (.sli _ _ _ _)=>none
  |some (.frs _ _ _)=>none
  |some a=>match freeze st fr l with
   |some (r,st')=>some (a.plain::r,st')
   |none=>none
  |none=>none
def cw (fr:Fr) (g:Int):Option Opd→Option Int
 |none=>some g
 |some x=>match x.ev fr with
  |some (.int _ n)=>some n
  |_=>none
def aG (fr:Fr) (d:Nat) (a:AV):Fr:=upd fr d (some a)
def Mc:AV→Option Value
 | .int k n=>some (.int k n)
 | .bool b=>some (.bool b)
 | .str s=>some (.string s)
 |_=>none
def uJ:List AV→Option (List Value)
 | []=>some []
 |a::l=>match Mc a,uJ l with
  |some v,some vs=>some (v::vs)
  |_,_=>none
def dW:List AV→List AV→Bool
 | [],[]=>true
 | .str a::l,.str b::m=>decide (a=b)&&dW l m
 | .int _ a::l,.int _ b::m=>decide (a=b)&&dW l m
 | .bool a::l,.bool b::m=>(a==b)&&dW l m
 |_,_=>false
def lD:Bool→BinOp
 |true=> .neq
 |false=> .eql
def Md (P:Program) (neg:Bool) (t:TypeId) (us vs:List Value) (r:Bool):Prop:=
 ∀(w:World) (x y:Operand),(eqGuard (lD neg) t x y (.agg us.toArray) (.agg vs.toArray)).run P w= .ok () w∧(binOp (lD neg) t (.agg us.toArray) (.agg vs.toArray)).run P w= .ok (.bool (match neg with|true=> !r|false=>r)) w
def ii:List (List AV)→Option (List UInt8×Prop)
 | []=>some ([],True)
 | [.int .u8 n]::r=>match ii r with
  |some (l,p)=>some (n.toNat.toUInt8::l,(0≤n∧n<256)∧p)
  |none=>none
 |_=>none
theorem iQ: ∀{rows:List (List AV)} {l:List UInt8} {p:Prop},ii rows=some (l,p)→p→l.length=rows.length∧ ∀(j:Nat) (g:j<l.length),rows[j]? =some [.int .u8 (l[j].toNat:Int)]
 | [],l,p,h,_=>by
  cases h;exact ⟨rfl,fun j g=>by simp at g⟩
 |c::r,l,p,h,C=>by
  unfold ii at h;split at h
  ·rename_i i;cases i
  ·rename_i n r' i
   cases i;split at h
   ·rename_i P R hr
    cases h;obtain ⟨I,J⟩:=iQ hr C.2;refine ⟨by simp [I],fun j g=> ?_⟩;cases j with
    |zero=>
     have hn:((n.toNat.toUInt8).toNat:Int)=n:=by
      rw [Nat.toUInt8_eq,UInt8.toNat_ofNat'];have:=C.1;omega
     simp only [List.getElem?_cons_zero,List.getElem_cons_zero];rw [hn]
    |succ j=>simpa using J j (by simpa using g)
   ·cases h
  ·cases h
def MA:Value→Option Bool
 | .nilIface=>some true
 | .iface _ _=>some false
 | .pointer none=>some true
 | .pointer (some _)=>some false
 |_=>none
def isC:Operand→Bool
 | .const _=>true
 |_=>false
def Opd.isK:Opd→Bool
 | .k _=>true
 | .s _=>false
def zA (P:Program) (neg:Bool) (t:TypeId) (u v:Value) (r:Bool):Prop:=
 ∀(w:World) (x y:Operand),(isC x||isC y)=true→(eqGuard (lD neg) t x y u v).run P w= .ok () w∧(binOp (lD neg) t u v).run P w= .ok (.bool (match neg with|true=> !r|false=>r)) w
def FRowW (σ:Sg) (w:World) (g cap esz:Nat) (rows:List (List AV)):Prop:=
 ∃e i,w.heap[g]? =some (.cells i e (0,0))∧i.size=cap*esz∧rows.length≤cap∧(∀c∈rows,c.length=esz)∧RelL σ (i.toList.take (rows.length*esz)) rows.flatten∧(∀u∈i.toList,u.oneCell' =true)∧ ∀j,σ g j=none
structure BelowBut (g:Nat) (w w' :World):Prop where
 os:w'.os=w.os
 tape:w'.tape=w.tape
 output:w'.output=w.output
 size:w.heap.size≤w'.heap.size
 block: ∀k,k<w.heap.size→k≠g→w'.heap[k]? =w.heap[k]?
structure MF (P:Program) (f:FuncId) (args:List AV) (esz:Nat) (rows:List (List AV)):Prop where
 cb:ab P f=true
 run: ∀(σ:Sg) (w:World) (vs:List Value),Holds σ w→RelPs σ vs args→GW w→
  Calls P f vs.toArray w fun e w' => ∃σ' g cap,e= .returned (.slice (some ⟨g,0,none⟩) rows.length cap)∧Ext σ σ' w.heap.size∧Holds σ' w' ∧Below w.heap.size w w' ∧w.heap.size≤g∧FRowW σ' w' g cap esz rows
structure MT (P:Program) (f:FuncId) (args:List AV) (esz:Nat) (rows:List (List AV)) (as:List AV):Prop where
 cb:ab P f=true
 run: ∀(σ:Sg) (w:World) (vs:List Value),Holds σ w→RelPs σ vs args→GW w→
  Calls P f vs.toArray w fun e w' => ∃σ' g cap us,e= .returned (.tuple (.slice (some ⟨g,0,none⟩) rows.length cap::us).toArray)∧RelPs σ' us as∧Ext σ σ' w.heap.size∧Holds σ' w' ∧Below w.heap.size w w' ∧w.heap.size≤g∧FRowW σ' w' g cap esz rows
structure MR (P:Program) (f:FuncId) (esz:Nat) (rows:List (List AV)) (args:List AV) (rows' :List (List AV)):Prop where
 cb:ab P f=true
 run: ∀(σ:Sg) (w:World) (g cap:Nat) (vs:List Value),Holds σ w→FRowW σ w g cap esz rows→RelPs σ vs args→GW w→
  Calls P f (.slice (some ⟨g,0,none⟩) rows.length cap::vs).toArray w fun e w' => ∃σ' g' cap',e= .returned (.slice (some ⟨g',0,none⟩) rows'.length cap')∧Ext σ σ' w.heap.size∧Holds σ' w' ∧BelowBut g w w' ∧(g' =g∨w.heap.size≤g')∧FRowW σ' w' g' cap' esz rows'
structure MN (P:Program) (f:FuncId) (args:List AV) (esz:Nat) (rows:List (List AV)):Prop where
 cb:ab P f=true
 run: ∀(σ:Sg) (w:World) (vs:List Value),Holds σ w→RelPs σ vs args→GW w→
  Calls P f (.slice none 0 0::vs).toArray w fun e w' => ∃σ' g cap,e= .returned (.slice (some ⟨g,0,none⟩) rows.length cap)∧Ext σ σ' w.heap.size∧Holds σ' w' ∧Below w.heap.size w w' ∧w.heap.size≤g∧FRowW σ' w' g cap esz rows
def bO (s:Nat):List Nat→Bool
 | []=>false
 |x::l=>match Nat.beq x s with
  |true=>true
  |false=>bO s l
structure BelowK (K:Nat→Prop) (w w' :World):Prop where
 os:w'.os=w.os
 tape:w'.tape=w.tape
 output:w'.output=w.output
 size:w.heap.size≤w'.heap.size
 block: ∀k,k<w.heap.size→ ¬K k→w'.heap[k]? =w.heap[k]?
theorem BelowK.refl (K:Nat→Prop) (w:World):BelowK K w w:=⟨rfl,rfl,rfl,gA4 _,fun _ _ _=>rfl⟩
theorem BelowK.of {w w' :World} (h:Below w.heap.size w w') (K:Nat→Prop):BelowK K w w' :=⟨h.os,h.tape,h.output,h.size,fun k g _=>h.block k g⟩
theorem BelowK.trans {K K' :Nat→Prop} {a b c:World} (h:BelowK K a b) (k:BelowK K' b c) (g: ∀x,K' x→K x∨a.heap.size≤x):BelowK K a c:=
 ⟨k.os.trans h.os,k.tape.trans h.tape,k.output.trans h.output,gB7 h.size k.size,fun i hi hn=>(k.block i (Nat.lt_of_lt_of_le hi h.size) fun j=>by rcases g i j with e|e;exact hn e;omega).trans (h.block i hi hn)⟩
theorem BelowK.below {K:Nat→Prop} {w w' :World} (h:BelowK K w w') (g: ∀b,¬K b):Below w.heap.size w w' :=⟨h.os,h.tape,h.output,h.size,fun k i=>h.block k i (g k)⟩
def ExtK (K:Nat→Prop) (σ σ' :Sg) (n:Nat):Prop:=σ.le σ' ∧ ∀b o,b<n→ ¬K b→σ' b o=σ b o
theorem Ext.toK {σ σ' :Sg} {n:Nat} (h:Ext σ σ' n) (K:Nat→Prop):ExtK K σ σ' n:=⟨h.1,fun b o hb _=>h.2 b o hb⟩
theorem ExtK.trans {K K' :Nat→Prop} {a b c:Sg} {n m:Nat} (h:ExtK K a b n) (k:ExtK K' b c m) (j:n≤m) (p: ∀x,K' x→K x∨n≤x):ExtK K a c n:=
 ⟨h.1.trans k.1,fun x o i hn=>(k.2 x o (Nat.lt_of_lt_of_le i j) fun g=>by rcases p x g with e|e;exact hn e;omega).trans (h.2 x o i hn)⟩
theorem ExtK.ext {K:Nat→Prop} {σ σ' :Sg} {n:Nat} (h:ExtK K σ σ' n) (g: ∀b,¬K b):Ext σ σ' n:=⟨h.1,fun b o hb=>h.2 b o hb (g b)⟩
def ob (b:Nat):Prop:=(∃x∈Bj,x.1=b)∨b∈yx∨b∈Bk
theorem GW.lt {w:World} (h:GW w) {b:Nat} (hb:ob b):b<w.heap.size:=by
 rcases hb with ⟨x,i,rfl⟩|hb|hb
 ·obtain ⟨ty,fr,g⟩:=h.cells x i
  exact (gC0 g).1
 ·obtain ⟨ev,ty,fr,g,j⟩:=h.ifc b hb
  exact (gC0 g).1
 ·obtain ⟨m,g⟩:=h.num b hb
  exact World.block_lt_of_cell? w _ g
theorem GW.belowK {K:Nat→Prop} {w w' :World} (h:GW w) (p: ∀b,K b→ ¬ob b) (hb:BelowK K w w'):GW w' where
 cells:=fun x i=>by
  obtain ⟨ty,fr,j⟩:=h.cells x i;exact ⟨ty,fr,(hb.block _ (gC0 j).1 fun e=>p _ e (.inl ⟨x,i,rfl⟩)).trans j⟩
 ifc:=fun g i=>by
  obtain ⟨ev,ty,fr,j,r⟩:=h.ifc g i;exact ⟨ev,ty,fr,(hb.block _ (gC0 j).1 fun e=>p _ e (.inr (.inl i))).trans j,r⟩
 num:=fun g i=>by
  obtain ⟨m,j⟩:=h.num g i;exact ⟨m,(World.cell?_of_block (w:=w) (a:=⟨g,0,none⟩) (hb.block g (World.block_lt_of_cell? w _ j) fun e=>p _ e (.inr (.inr i)))).trans j⟩
def IF (e:MapEntry):Value:= .func (.func e.key.cells.size) #[] (e.key.cells++e.val.cells)
def KO (g:List MapEntry):Value:= .func (.func 0) #[] (g.map IF).toArray
def ph (v:Value):Prop:=v.cells.size=1→v.oneCell' =true
def nI (id:Nat) (o:Obj) (t:TypeId) (vs:Array Value):Prop:=
 match cC id with
 |false=>o= .cells vs t (0,0)∧(ew id=true→t=bT)
 |true=> ∃g clock,o= .map g clock∧Go.MapKept.Stamped g clock∧(∃i:List MapEntry,i.Perm g.toList∧vs= #[KO i])∧ ∀e∈g.toList,ph e.key∧ph e.val
def HeapAt (w:World) (g id:Nat) (t:TypeId) (vs:Array Value):Prop:= ∃o,w.heap[g]? =some o∧nI id o t vs
theorem HeapAt.lt {w:World} {g id:Nat} {t:TypeId} {vs:Array Value} (h:HeapAt w g id t vs):g<w.heap.size:=by
 obtain ⟨o,i,_⟩:=h;exact (gC0 i).1
theorem HeapAt.of {w w' :World} {g id:Nat} {t:TypeId} {vs:Array Value} (h:HeapAt w g id t vs) (hb:w'.heap[g]? =w.heap[g]?):HeapAt w' g id t vs:=by
 obtain ⟨o,i,j⟩:=h;exact ⟨o,hb.trans i,j⟩
theorem HeapAt.cells {w:World} {g id:Nat} {t:TypeId} {vs:Array Value} (h:HeapAt w g id t vs) (j:cC id=false):w.heap[g]? =some (.cells vs t (0,0)):=by
 obtain ⟨o,p,i⟩:=h;unfold nI at i;rw [j] at i;obtain ⟨i,_⟩:o= .cells vs t (0,0)∧(ew id=true→t=bT):=i;rw [p,i]
theorem HeapAt.ty {w:World} {g id:Nat} {t:TypeId} {vs:Array Value} (h:HeapAt w g id t vs) (j:cC id=false) (hb:ew id=true):t=bT:=by
 obtain ⟨o,p,i⟩:=h;unfold nI at i;rw [j] at i;exact i.2 hb
theorem HeapAt.mk {w:World} {g id:Nat} {t:TypeId} {vs:Array Value} (i:cC id=false) (hb:ew id=true→t=bT) (h:w.heap[g]? =some (.cells vs t (0,0))):HeapAt w g id t vs:=by
 refine ⟨_,h,?_⟩;unfold nI;rw [i];exact ⟨rfl,hb⟩
theorem HeapAt.num {w:World} {g id id' :Nat} {t:TypeId} {vs:Array Value} (h:HeapAt w g id t vs) (i:kd id' =kd id):HeapAt w g id' t vs:=by
 obtain ⟨o,p,j⟩:=h;refine ⟨o,p,?_⟩;unfold nI at j⊢;rw [ID i,Mb i];exact j
def npV (id g off:Nat):Value:=match cC id with
 |true=> .map (some g)
 |false=> .pointer (some ⟨g,off,none⟩)
theorem FI (id g off:Nat):(npV id g off).oneCell' =true:=by unfold npV;split<;>rfl
theorem dw {id:Nat} (h:cC id=false) (g off:Nat):npV id g off= .pointer (some ⟨g,off,none⟩):=by unfold npV;rw [h]
def TagB (B:Nat→Option Nat) (v:Value) (a:AV):Prop:=
 match a with
 | .np id off=> ∃g,v=npV id g off∧ ∀g',B id=some g' →g' =g
 | .sli id _ n cap=>n≤cap∧ ∃g,v= .slice (some ⟨g,0,none⟩) n cap∧ ∀g',B id=some g' →g' =g
 |_=>True
def BoxesAt (σ:Sg) (w:World) (B:Nat→Option Nat) (S:List (Nat×List AV)):Prop:=
 ∀id cs,(id,cs)∈S→ ∃g t vs,B id=some g∧HeapAt w g id t vs∧RelL σ vs.toList (cs.map AV.unown)∧(∀(j:Nat) v a,vs.toList[j]? =some v→cs[j]? =some a→TagB B v a)∧ ∀j,σ g j=none
def RelB1 (σ:Sg) (B:Nat→Option Nat) (v:Value) (a:AV):Prop:=
 match a with
 | .np id off=>TagB B v (.np id off)
 | .sli id e n c=>TagB B v (.sli id e n c)
 |a=>RelP σ v a
def RelB2 (σ:Sg) (B:Nat→Option Nat) (v:Value) (a:AV):Prop:=
 match a with
 | .agg cs=> ∃vs:List Value,v= .agg vs.toArray∧RelL σ vs (cs.map AV.unown)∧ ∀(j:Nat) u x,vs[j]? =some u→cs[j]? =some x→TagB B u x
 |a=>RelB1 σ B v a
def RelB (σ:Sg) (B:Nat→Option Nat) (v:Value) (a:AV):Prop:=
 match a with
 | .tup l=> ∃vs:List Value,v= .tuple vs.toArray∧vs.length=l.length∧ ∀(j:Nat) u x,vs[j]? =some u→l[j]? =some x→RelB2 σ B u x
 |a=>RelB2 σ B v a
def RelBs (σ:Sg) (B:Nat→Option Nat) (vs:List Value) (as:List AV):Prop:=vs.length=as.length∧ ∀(j:Nat) v a,vs[j]? =some v→as[j]? =some a→RelB1 σ B v a
def aw (S:List (Nat×List AV)):List Nat:=S.map (·.1)
structure MS (P:Program) (f:FuncId) (S:List (Nat×List AV)) (args:List AV) (S' :List (Nat×List AV)) (r:AV):Prop where
 cb:ab P f=true
 run: ∀(σ:Sg) (w:World) (B:Nat→Option Nat) (vs:List Value),Holds σ w→GW w→(∀id g,B id=some g→id∈aw S)→(∀id id' g,B id=some g→B id' =some g→id=id')→(∀id g,B id=some g→ ¬ob g)→BoxesAt σ w B S→RelBs σ B vs args→
  Calls P f vs.toArray w fun e w' => ∃σ' v B',e= .returned v∧ExtK (fun b=> ∃id,B id=some b) σ σ' w.heap.size∧Holds σ' w' ∧BelowK (fun b=> ∃id,B id=some b) w w' ∧(∀id g,B' id=some g→id∈aw S')∧(∀id id' g,B' id=some g→B' id' =some g→id=id')∧
   BoxesAt σ' w' B' S' ∧RelB σ' B' v r∧(∀id g,B' id=some g→(∃id',B id' =some g)∨w.heap.size≤g)∧ ∀id g g',B id=some g→B' id=some g' →g=g'
structure RowI where
 g:Nat
 n:Nat
 esz:Nat
 cap:Nat
 bl:Bool
def Nw (σ:Sg) (w:World) (r:RowI):Prop:= ∃e g,w.heap[r.g]? =some (.cells g e (0,0))∧(r.n≤r.cap∧(r.bl=true→e=5))∧(g.size=r.cap*r.esz∧ ∀u∈g.toList,u.oneCell' =true)∧ ∀j,r.n*r.esz≤j→σ r.g j=none
def sU (R:Nat→Option RowI) (v:Value) (a:AV):Prop:=
 match a with
 | .lst (.own k _) esz l=>(l.length=0∧ ∃A,v= .slice A l.length l.length∧(ew k=true→A=none))∨ ∃g cap,v= .slice (some ⟨g,0,none⟩) l.length cap∧R k=some ⟨g,l.length,esz,cap,ew k⟩
 |_=>True
def BoxesAtK (σ:Sg) (w:World) (B:Nat→Option Nat) (R:Nat→Option RowI) (S:List (Nat×List AV)):Prop:=
 ∀id cs,(id,cs)∈S→ ∃g t vs,B id=some g∧HeapAt w g id t vs∧RelL σ vs.toList (cs.map AV.unown)∧(∀(j:Nat) v a,vs.toList[j]? =some v→cs[j]? =some a→TagB B v a∧sU R v a)∧ ∀j,σ g j=none
structure RowsW (σ:Sg) (w:World) (B:Nat→Option Nat) (R:Nat→Option RowI) (ks:List Nat):Prop where
 at_: ∀k r,R k=some r→k∈ks∧Nw σ w r∧ ¬ob r.g∧ ∀id,B id≠some r.g
 inj: ∀k k' r r',R k=some r→R k' =some r' →r.g=r'.g→k=k'
def RelK1 (σ:Sg) (B:Nat→Option Nat) (R:Nat→Option RowI) (v:Value) (a:AV):Prop:=
 match a with
 | .lst (.own k n) esz l=>Rel1 σ v (.lst .any esz l)∧sU R v (.lst (.own k n) esz l)
 |a=>RelB1 σ B v a
def RelKs (σ:Sg) (B:Nat→Option Nat) (R:Nat→Option RowI) (vs:List Value) (as:List AV):Prop:=vs.length=as.length∧ ∀(j:Nat) v a,vs[j]? =some v→as[j]? =some a→RelK1 σ B R v a
def RelK2 (σ:Sg) (B:Nat→Option Nat) (R:Nat→Option RowI) (v:Value) (a:AV):Prop:=
 match a with
 | .agg cs=> ∃vs:List Value,v= .agg vs.toArray∧RelL σ vs (cs.map AV.unown)∧ ∀(j:Nat) u x,vs[j]? =some u→cs[j]? =some x→TagB B u x∧sU R u x
 |a=>RelK1 σ B R v a
def RelK (σ:Sg) (B:Nat→Option Nat) (R:Nat→Option RowI) (v:Value) (a:AV):Prop:=
 match a with
 | .tup l=> ∃vs:List Value,v= .tuple vs.toArray∧vs.length=l.length∧ ∀(j:Nat) u x,vs[j]? =some u→l[j]? =some x→RelK2 σ B R u x
 |a=>RelK2 σ B R v a
def KBR (B:Nat→Option Nat) (R:Nat→Option RowI) (b:Nat):Prop:=(∃id,B id=some b)∨ ∃k r,R k=some r∧r.g=b
structure MTK (P:Program) (f:FuncId) (ks:List Nat) (S:List (Nat×List AV)) (args:List AV) (ks' :List Nat) (S' :List (Nat×List AV)) (r:AV):Prop where
 cb:ab P f=true
 run: ∀(σ:Sg) (w:World) (B:Nat→Option Nat) (R:Nat→Option RowI) (vs:List Value),Holds σ w→GW w→(∀id g,B id=some g→id∈aw S)→(∀id id' g,B id=some g→B id' =some g→id=id')→(∀id g,B id=some g→ ¬ob g)→RowsW σ w B R ks→BoxesAtK σ w B R S→RelKs σ B R vs args→
  Calls P f vs.toArray w fun e w' => ∃σ' v B' R',e= .returned v∧ExtK (KBR B R) σ σ' w.heap.size∧Holds σ' w' ∧BelowK (KBR B R) w w' ∧(∀id g,B' id=some g→id∈aw S')∧(∀id id' g,B' id=some g→B' id' =some g→id=id')∧RowsW σ' w' B' R' ks' ∧
   BoxesAtK σ' w' B' R' S' ∧RelK σ' B' R' v r∧(∀id g,B' id=some g→KBR B R g∨w.heap.size≤g)∧(∀k r,R' k=some r→KBR B R r.g∨w.heap.size≤r.g)∧ ∀id g g',B id=some g→B' id=some g' →g=g'
def FJ (o:MO) (vs:List Value):Sem Next:=
 match o,vs with
 | .get t ok,[x,k]=>do pure (.value (←Instr.lookup t x k ok))
 | .set t,[m,k,v]=>do Instr.mapUpdate t m k v;pure .skip
 | .new t,[]=>do pure (.value (←Instr.makeMap t none))
 | .bld t,[]=>do pure (.value (←Instr.alloc t true (.tuple #[])))
 | .del t k ty,[x,y]=>do pure (.value (←Builtin.delete_ #[t,k] ty #[x,y]))
 | .len t ty,[x]=>do pure (.value (←Builtin.len_ #[t] ty #[x]))
 |_,_=>pure .skip
def MO.val:MO→Bool
 | .set _=>false
 |_=>true
structure MOp (P:Program) (o:MO) (S:List (Nat×List AV)) (args:List AV) (S' :List (Nat×List AV)) (r:AV):Prop where
 run: ∀(σ:Sg) (w:World) (B:Nat→Option Nat) (vs:List Value),Holds σ w→GW w→(∀id g,B id=some g→id∈aw S)→(∀id id' g,B id=some g→B id' =some g→id=id')→(∀id g,B id=some g→ ¬ob g)→BoxesAt σ w B S→RelBs σ B vs args→
  ∃nx w' σ' v B',(FJ o vs).run P w= .ok nx w' ∧nx=(match o.val with|true=>Next.value v|false=>Next.skip)∧ExtK (fun b=> ∃id,B id=some b) σ σ' w.heap.size∧Holds σ' w' ∧BelowK (fun b=> ∃id,B id=some b) w w' ∧(∀id g,B' id=some g→id∈aw S')∧(∀id id' g,B' id=some g→B' id' =some g→id=id')∧
   BoxesAt σ' w' B' S' ∧RelB σ' B' v r∧(∀id g,B' id=some g→(∃id',B id' =some g)∨w.heap.size≤g)∧ ∀id g g',B id=some g→B' id=some g' →g=g'
def AV.told:AV→AV
 | .lst (.own _ _) esz l=> .lst .any esz l
 | .frs _ _ _=> .top
 |a=>a
def AV.toldK (row:Nat→Nat) (ks:List Nat):AV→AV
 | .lst (.own s v) esz l=>match bO s ks&&Nat.beq v (row s) with
  |true=> .lst (.own s 0) esz l
  |false=> .lst .any esz l
 | .frs _ _ _=> .top
 |a=>a
def AV.backK (row:Nat→Nat):AV→AV
 | .lst (.own s _) esz l=> .lst (.own s (row s+1)) esz l
 |a=>a
def AV.back2 (row:Nat→Nat):AV→AV
 | .agg cs=> .agg (cs.map (AV.backK row))
 |a=>a.backK row
def AV.backR (row:Nat→Nat):AV→AV
 | .tup l=> .tup (l.map (AV.back2 row))
 |a=>a.back2 row
def kY (row:Nat→Nat) (S:List (Nat×List AV)):List (Nat×List AV):=S.map fun x=>(x.1,x.2.map (AV.backK row))
def pi (row:Nat→Nat) (ks ks' :List Nat):Nat→Nat:=fun k=>match bO k ks||bO k ks' with
 |true=>row k+1
 |false=>row k
def AV.inS (ids:List Nat):AV→Bool
 | .np id _=>Nat.ble 1000000 id&&bO id ids
 | .sli id _ _ _=>Nat.ble 1000000 id&&bO id ids
 | .lst (.own _ _) _ _=>false
 | .frs _ _ _=>false
 |_=>true
def AV.inK (ks ids:List Nat):AV→Bool
 | .lst (.own k _) _ _=>bO k ks
 |a=>a.inS ids
def AV.told1 (ids:List Nat):AV→Bool
 | .int _ _| .bool _| .str _| .ro _| .fn _ _| .raw _| .top=>true
 | .lst t _ _=>match t with
  | .own _ _=>false
  |_=>true
 | .agg cs=>cs.all (AV.inS ids)
 | .np id _=>Nat.ble 1000000 id&&bO id ids
 | .sli id _ _ _=>Nat.ble 1000000 id&&bO id ids
 |_=>false
def AV.told1K (ks ids:List Nat):AV→Bool
 | .lst (.own k _) _ _=>bO k ks
 | .agg cs=>cs.all (AV.inK ks ids)
 |a=>a.told1 ids
def AV.argK (row:Nat→Nat) (ks:List Nat):AV→Option AV
 | .np id off=>some (.np id off)
 | .ptr id off=>some (.np id off)
 | .sli id e n c=>some (.sli id e n c)
 | .lst t e l=>match t with
  | .nil=>some (.lst .nil e l)
  |_=>some (AV.toldK row ks (.lst t e l))
 |a=>a.arg
def Bm (row:Nat→Nat) (ks:List Nat):List AV→Option (List AV)
 | []=>some []
 |a::l=>match a.argK row ks,Bm row ks l with
  |some x,some xs=>some (x::xs)
  |_,_=>none
def iR:List AV→Option (List AV)
 | []=>some []
 | .np id off::l=>match iR l with
  |some xs=>some (.np id off::xs)
  |none=>none
 | .ptr id off::l=>match iR l with
  |some xs=>some (.np id off::xs)
  |none=>none
 | .sli id e n c::l=>match iR l with
  |some xs=>some (.sli id e n c::xs)
  |none=>none
 | .lst .nil e k::l=>match iR l with
  |some xs=>some (.lst .nil e k::xs)
  |none=>none
 |a::l=>match a.arg,iR l with
  |some x,some xs=>some (x::xs)
  |_,_=>none
def pj (st:Nat→Option (List AV×Bool)):List Nat→Option (List (Nat×List AV))
 | []=>some []
 |id::l=>match st id,pj st l with
  |some (cs,false),some r=>some ((id,cs.map AV.told)::r)
  |_,_=>none
def Bn (st:St) (ks:List Nat):List Nat→Option (List (Nat×List AV))
 | []=>some []
 |id::l=>match st.box id,Bn st ks l with
  |some (cs,false),some r=>some ((id,cs.map (AV.toldK st.row ks))::r)
  |_,_=>none
def eZ (N:List Nat):AV→AV
 | .np id off=>match bO id N with
  |true=> .top
  |false=> .np id off
 | .sli id e n c=>match bO id N with
  |true=> .top
  |false=> .sli id e n c
 |a=>a
def DU (N:List Nat):AV→AV
 | .agg cs=> .agg (cs.map (eZ N))
 |a=>eZ N a
def Bo (N:List Nat):AV→AV
 | .agg cs=> .agg (cs.map (eZ N))
 | .tup l=> .tup (l.map (DU N))
 | .pel id e i k c=>match bO id N with
  |true=> .top
  |false=> .pel id e i k c
 |a=>eZ N a
def IG (N:List Nat):AV→AV
 | .when c a=> .when c (Bo N a)
 |a=>Bo N a
def gB (N:List Nat) (fr:Fr):Fr:=match N with
 | []=>fr
 |_=>fun s=>match fr s with
  |some a=>some (IG N a)
  |none=>none
def jL (N:List Nat) (b:Nat→Option (List AV×Bool)):Nat→Option (List AV×Bool):=match N with
 | []=>b
 |_=>fun k=>match b k with
  |some (ds,fz)=>some (ds.map (eZ N),fz)
  |none=>none
def oc:List (Nat×List AV)→Nat→Option (List AV)
 | [],_=>none
 |(i,cs)::l,id=>match Nat.beq i id with
  |true=>some cs
  |false=>oc l id
def jM (b:Nat→Option (List AV×Bool)) (ids:List Nat) (S:List (Nat×List AV)):Nat→Option (List AV×Bool):=fun k=>match oc S k with
 |some cs=>some (cs,false)
 |none=>match bO k ids with
  |true=>none
  |false=>b k
def au (ids:List Nat):List (Nat×List AV)→List Nat
 | []=> []
 |(i,_)::l=>match bO i ids with
  |true=>au ids l
  |false=>i::au ids l
def bf (b:Nat→Option (List AV×Bool)):List Nat→Bool
 | []=>true
 |i::l=>match b i with
  |none=>Nat.ble 1000000 i&&Nat.blt i 2000000&&bf b l
  |some _=>false
def okS (ids:List Nat) (S:List (Nat×List AV)) (r:AV):Bool:=ids.all (fun i=>Nat.ble 1000000 i||bO i (aw S))&&S.all (fun x=>x.2.all (AV.inS (aw S)))&&(match r with| .tup l=>l.all (AV.told1 (aw S))|r=>r.told1 (aw S))
def GL (ids ks' :List Nat) (S:List (Nat×List AV)) (r:AV):Bool:=ids.all (fun i=>Nat.ble 1000000 i||bO i (aw S))&&S.all (fun x=>x.2.all (AV.inK ks' (aw S)))&&(match r with| .tup l=>l.all (AV.told1K ks' (aw S))|r=>r.told1K ks' (aw S))
def RowsOk (esz:Nat) (rows:List (List AV)):Prop:=0<esz∧ ∀c∈rows,c.length=esz∧c.map AV.unown=c
def AV.flat1:AV→Bool
 | .int _ _| .bool _| .str _=>true
 |_=>false
def AV.flat:AV→Bool
 | .tup l=>l.all AV.flat1
 |a=>a.flat1
def aj (P:Program) (i:AI) (rs:Option RS) (fr:Fr) (st:St):Option (Fr×St×Prop):=
 match i with
 | .mov d x=>match x.ev fr with
  |some a=>some (aG fr d a,st,True)
  |none=>none
 | .pick d c a b=>match c.ev fr with
  |some (.bool cb)=>match a with
   | .k (.bool true)=>match b.ev fr with
    |some (.when g (.bool e))=>some (aG fr d (.bool (cb||e)),st,cb=false→g=true)
    |some (.bool e)=>some (aG fr d (.bool (cb||e)),st,True)
    |_=>none
   |a=>match b with
    | .k (.bool false)=>match a.ev fr with
     |some (.when g (.bool e))=>some (aG fr d (.bool (cb&&e)),st,cb=true→g=true)
     |some (.bool e)=>some (aG fr d (.bool (cb&&e)),st,True)
     |_=>none
    |_=>none
  |_=>none
 | .box d x=>match x.ev fr,st.box d with
  |some a,none=>match a.vcells with
   |some cs=>some (aG fr d (.ptr d 0),{st with box:=upd st.box d (some (cs,false))},True)
   |none=>none
  |_,_=>none
 | .alloc d z=>match st.box d with
  |none=>some (aG fr d (.ptr d 0),{st with box:=upd st.box d (some (z,false))},True)
  |some _=>none
 | .ld d n agg p=>match p.ev fr with
  |some (.ptr id off)=>match st.cbox id with
   |some (cs,_)=>match nH off cs with
    |some cs=>match agg with
     |true=>match nG n cs with
      |some cs=>some (aG fr d (.agg cs),st,True)
      |none=>none
     |false=>match xz 0 cs with
      |some a=>some (aG fr d a,st,True)
      |none=>none
    |none=>none
   |none=>none
  |some (.ro cs)=>match agg with
   |true=>match nG n cs with
    |some cs=>some (aG fr d (.agg cs),st,True)
    |none=>none
   |false=>match xz 0 cs with
    |some a=>some (aG fr d a,st,True)
    |none=>none
  |some (.pel id esz i k c)=>match st.cbox id with
   |some (cs,_)=>match nH k c with
    |some c' =>match agg with
     |true=>match nG n c' with
      |some c' =>some (aG fr d (.agg c'),st,c.length=esz∧(cs.drop (i*esz)).take esz=c)
      |none=>none
     |false=>match xz 0 c' with
      |some a=>some (aG fr d a,st,c.length=esz∧(cs.drop (i*esz)).take esz=c)
      |none=>none
    |none=>none
   |none=>none
  |some (.np id off)=>match st.cbox id with
   |some (cs,_)=>match nH off cs with
    |some cs=>match agg with
     |true=>match nG n cs with
      |some cs=>some (aG fr d (.agg cs),st,True)
      |none=>none
     |false=>match xz 0 cs with
      |some a=>some (aG fr d a,st,True)
      |none=>none
    |none=>none
   |none=>none
  |_=>none
 | .st n p x=>match p.ev fr,x.ev fr with
  |some (.pel id esz i k c),some a=>match a.vcells,st.cbox id with
   |some xs,some (cs,false)=>match Nat.beq xs.length n,splice k xs c with
    |true,some c' =>some (fr,{st with box:=upd st.box id (some (cs.take (i*esz)++c' ++cs.drop (i*esz+esz),false))},c.length=esz∧(cs.drop (i*esz)).take esz=c)
    |_,_=>none
   |_,_=>none
  |some (.ptr id off),some a=>match a.vcells,st.cbox id with
   |some cs,some (J,false)=>match Nat.beq cs.length n,splice off cs J with
    |true,some new=>some (fr,{st with box:=upd st.box id (some (new,false))},True)
    |_,_=>none
   |_,_=>none
  |some (.np id off),some a=>match a.vcells,st.cbox id with
   |some cs,some (J,false)=>match Nat.beq cs.length n,splice off cs J with
    |true,some new=>some (fr,{st with box:=upd st.box id (some (new,false))},True)
    |_,_=>none
   |_,_=>none
  |_,_=>none
 | .off d k p=>match p.ev fr with
  |some (.ptr id off)=>some (aG fr d (.ptr id (off+k)),st,True)
  |some (.ro cs)=>match nH k cs with
   |some cs=>some (aG fr d (.ro cs),st,True)
   |none=>none
  |some (.pel id esz i k' c)=>some (aG fr d (.pel id esz i (k' +k) c),st,True)
  |some (.np id off)=>match cC id with
   |true=>none
   |false=>some (aG fr d (.np id (off+k)),st,True)
  |_=>none
 | .b2s d x=>match x.ev fr with
  |some (.lst _ esz l)=>match ii l with
   |some (R,q)=>some (aG fr d (.str ⟨R.toArray⟩),st,esz=1∧0<l.length∧q)
   |none=>none
  |_=>none
 | .offi d n esz x i=>match x.ev fr,i.ev fr with
  |some (.ptr id off),some (.int _ k)=>some (aG fr d (.ptr id (off+k.toNat*esz)),st,0≤k∧k<n)
  |some (.np id off),some (.int _ k)=>match cC id with
   |true=>none
   |false=>some (aG fr d (.np id (off+k.toNat*esz)),st,0≤k∧k<n)
  |_,_=>none
 | .idx d esz x i=>match x.ev fr,i.ev fr,rs with
  |some (.sli id j n _),some (.int _ k),some (.c cs)=>some (aG fr d (.pel id esz k.toNat 0 cs),st,j=esz∧0≤k∧k<n)
  |some (.lst _ j l),some (.int _ n),some (.c cs)=>some (aG fr d (.ro cs),st,j=esz∧0≤n∧l[n.toNat]? =some cs)
  |_,_,_=>none
 | .bin d op bt x y=>match x.ev fr,y.ev fr with
  |some a,some b=>match IE op bt a b with
   |some (c,p)=>some (aG fr d c,st,p)
   |none=>none
  |_,_=>none
 | .un d op x=>match x.ev fr with
  |some a=>match Nv op a with
   |some c=>some (aG fr d c,st,True)
   |none=>none
  |none=>none
 | .build d z ps=>match sg fr z ps with
  |some cs=>some (aG fr d (.agg cs),st,True)
  |none=>none
 | .bsl d n esz z ps=>match sg fr z ps with
  |some cs=>match FH esz n cs with
   |some l=>some (aG fr d (.lst .full esz l),st,True)
   |none=>none
  |none=>none
 | .len d b x=>match b,x.ev fr with
  |false,some (.lst _ _ l)=>some (aG fr d (.int .i64 l.length),st,True)
  |false,some (.sli _ _ n _)=>some (aG fr d (.int .i64 n),st,True)
  |false,some (.frs _ _ rows)=>some (aG fr d (.int .i64 rows.length),st,True)
  |true,some (.str s)=>some (aG fr d (.int .i64 s.size),st,True)
  |_,_=>none
 | .app d esz bytes x y=>match x.ev fr,y.ev fr with
  |some (.lst t j l),some (.lst t2 C m)=>some (aG fr d (.lst (jJ st d t) esz (l++m)),{st with row:=jK st d t},uH st t∧uI t j esz∧uI t2 C esz∧(l.length+m.length)*bytes≤140737488355328∧l.length+m.length≤140737488355328∧Mz t l m)
  |_,_=>none
 | .appr d esz bytes x y=>match x.ev fr,y.ev fr,rs with
  |some (.sli id j n I),some (.lst t2 C m),some (.m rows _)=>match st.cbox id,fr d with
   |some (cs,false),none=>some (aG fr d (.frs d esz (rows++m)),{st with box:=upd st.box id none},(∃sp,cs=rows.flatten++sp)∧cs.length=I*esz∧j=esz∧n=rows.length∧RowsOk esz rows∧uI t2 C esz∧0<m.length∧(rows.length+m.length)*bytes≤140737488355328∧rows.length+m.length≤140737488355328)
   |_,_=>none
  |some (.lst .nil _ _),some (.lst t2 C m),some (.m _ _)=>match fr d with
   |none=>some (aG fr d (.frs d esz m),st,uI t2 C esz∧0<m.length∧m.length*bytes≤140737488355328∧m.length≤140737488355328)
   |some _=>none
  |_,_,_=>none
 | .ext d i x=>match x.ev fr with
  |some (.tup l)=>match xz i l with
   |some a=>some (aG fr d a,st,True)
   |none=>none
  |_=>none
 | .call d f args=>match f.ev fr,evs fr args,rs with
  |some (.fn f cap),some as,some (.v r)=>match ez as with
   |some as=>some ((match d with|some d=>aG fr d r|none=>fr),st,AC P f (as++cap) r)
   |none=>none
  |some (.fn f cap),some as,some (.f esz rows)=>match ez as,d with
   |some as,some d=>match fr d with
    |none=>some (aG fr d (.frs d esz rows),st,MF P f (as++cap) esz rows)
    |some _=>none
   |_,_=>none
  |_,_,_=>none
 | .callo d f args=>match f.ev fr,evs fr args,rs with
  |some (.fn f cap),some as,some (.v r)=>match ez as with
   |some as=>some ((match d with|some d=>aG fr d r|none=>fr),st,AC P f (as++cap) r)
   |none=>none
  |some (.fn f cap),some as,some (.o esz rows)=>match ez as,d with
   |some as,some d=>some (aG fr d (.lst (.own d (st.row d+1)) esz rows),{st with row:=upd st.row d (st.row d+1)},MF P f (as++cap) esz rows)
   |_,_=>none
  |_,_,_=>none
 | .callr d f args=>match f.ev fr,evs fr args,rs with
  |some (.fn f cap),some (.sli id esz n I::as),some (.m rows rows')=>match ez as,st.cbox id,d with
   |some as,some (cs,false),some d=>match fr d with
    |none=>some (aG fr d (.frs d esz rows'),{st with box:=upd st.box id none},(∃sp,cs=rows.flatten++sp)∧cs.length=I*esz∧n=rows.length∧RowsOk esz rows∧MR P f esz rows (as++cap) rows')
    |some _=>none
   |_,_,_=>none
  |some (.fn f cap),some (.lst .nil _ _::as),some (.n esz rows)=>match ez as,d with
   |some as,some d=>match fr d with
    |none=>some (aG fr d (.frs d esz rows),st,MN P f (as++cap) esz rows)
    |some _=>none
   |_,_=>none
  |some (.fn f cap),some (.sli id esz n I::as),some (.b rows r)=>match ez as,st.cbox id,r.flat with
   |some as,some (cs,false),true=>some ((match d with|some d=>aG fr d r|none=>fr),st,(∃sp,cs=rows.flatten++sp)∧cs.length=I*esz∧n=rows.length∧RowsOk esz rows∧AC P f (.lst .any esz rows::(as++cap)) r)
   |_,_,_=>none
  |some (.fn f cap),some as,some (.v r)=>match ez as with
   |some as=>some ((match d with|some d=>aG fr d r|none=>fr),st,AC P f (as++cap) r)
   |none=>none
  |some (.fn f cap),some as,some (.f esz rows)=>match ez as,d with
   |some as,some d=>match fr d with
    |none=>some (aG fr d (.frs d esz rows),st,MF P f (as++cap) esz rows)
    |some _=>none
   |_,_=>none
  |_,_,_=>none
 | .calls d f args=>match f.ev fr,evs fr args,rs with
  |some (.fn f cap),some as,some (.v r)=>match ez as with
   |some as=>some ((match d with|some d=>aG fr d r|none=>fr),st,AC P f (as++cap) r)
   |none=>none
  |some (.fn f cap),some as,some (.t esz rows R)=>match ez as,d with
   |some as,some d=>match fr d with
    |none=>some (aG fr d (.tup (.frs d esz rows::R)),st,MT P f (as++cap) esz rows R)
    |some _=>none
   |_,_=>none
  |some (.fn f cap),some as,some (.s ids S' r)=>match iR as,pj st.box ids with
   |some as,some S=>some ((match d with|some d=>aG (gB (au ids S') fr) d r|none=>gB (au ids S') fr),⟨jM (jL (au ids S') st.box) ids S',st.row⟩,MS P f S (as++cap) S' r∧(okS ids S' r&&bf st.box (au ids S'))=true)
   |_,_=>none
  |some (.fn f cap),some as,some (.k ids ks S' ks' r)=>match Bm st.row ks as,Bn st ks ids with
   |some as,some S=>some ((match d with|some d=>aG (gB (au ids S') fr) d (r.backR st.row)|none=>gB (au ids S') fr),⟨jM (jL (au ids S') st.box) ids (kY st.row S'),pi st.row ks ks'⟩,MTK P f ks S (as++cap) ks' S' r∧(GL ids ks' S' r&&bf st.box (au ids S'))=true)
   |_,_=>none
  |_,_,_=>none
 | .mop o d args=>match evs fr args,rs with
  |some as,some (.s ids S' r)=>match iR as,pj st.box ids with
   |some as,some S=>some ((match d with|some d=>aG (gB (au ids S') fr) d r|none=>gB (au ids S') fr),⟨jM (jL (au ids S') st.box) ids S',st.row⟩,MOp P o S as S' r∧(okS ids S' r&&bf st.box (au ids S'))=true)
   |_,_=>none
  |_,_=>none
 | .rng _ _ _=>none
 | .nxt _ _=>none
 | .ent _ _=>none
 | .sub d tb j x lo hi=>match tb,x.ev fr with
  |true,some (.str s)=>match cw fr 0 lo,cw fr s.size hi with
   |some a,some b=>some (aG fr d (.str (s.extract a.toNat b.toNat)),st,0≤a∧a≤b∧b≤s.size)
   |_,_=>none
  |false,some (.lst _ esz l)=>match cw fr 0 lo,cw fr l.length hi with
   |some a,some b=>some (aG fr d (.lst .any esz ((l.take b.toNat).drop a.toNat)),st,esz=j∧0≤a∧a≤b∧b≤l.length)
   |_,_=>none
  |_,_=>none
 | .bidx d x i=>match x.ev fr,i.ev fr with
  |some (.str s),some (.int _ n)=>some (aG fr d (.int .u8 (s.data.getD n.toNat 0).toNat),st,0≤n∧n<s.size)
  |_,_=>none
 | .mx d l x y=>match x.ev fr,y.ev fr with
  |some (.int k n),some (.int _ m)=>some (aG fr d (.int k (match (match l with|true=>decide (m<n)|false=>decide (m>n)) with|true=>m|false=>n)),st,True)
  |_,_=>none
 | .conv d k x=>match x.ev fr with
  |some (.int _ n)=>some (aG fr d (.int k (k.wrap n)),st,True)
  |_=>none
 | .mkfn d f cap=>match freeze st fr cap with
  |some (cs,st')=>some (aG fr d (.fn f cs),st',True)
  |none=>none
 | .eqs d neg t x y=>match x.ev fr,y.ev fr with
  |some (.agg cs),some (.agg ds)=>match uJ cs,uJ ds with
   |some us,some vs=>some (aG fr d (.bool (match neg with|true=> !dW cs ds|false=>dW cs ds)),st,Md P neg t us vs (dW cs ds))
   |_,_=>none
  |some (.raw u),some (.raw v)=>match MA u,MA v with
   |some b,some c=>match x.isK||y.isK with
    |true=>some (aG fr d (.bool (match neg with|true=> !(b&&c)|false=>b&&c)),st,zA P neg t u v (b&&c))
    |false=>none
   |_,_=>none
  |some (.np id _),some (.raw v)=>match MA v,y.isK,cC id with
   |some true,true,false=>some (aG fr d (.bool (match neg with|true=>true|false=>false)),st,∀g o,zA P neg t (.pointer (some ⟨g,o,none⟩)) v false)
   |_,_,_=>none
  |_,_=>none
def AI.wantsRS:AI→Bool
 | .idx .. | .call .. | .callr .. | .callo .. | .calls .. | .mop .. | .appr .. =>true
 |_=>false
def AI.dst:AI→Option Nat
 | .mov d _| .pick d _ _ _| .box d _| .alloc d _| .ld d _ _ _| .off d _ _| .b2s d _| .offi d _ _ _ _| .idx d _ _ _| .bin d _ _ _ _| .un d _ _| .build d _ _| .bsl d _ _ _ _| .len d _ _| .app d _ _ _ _| .appr d _ _ _ _| .ext d _ _
 | .sub d _ _ _ _ _| .bidx d _ _| .mx d _ _ _| .conv d _ _| .mkfn d _ _| .eqs d _ _ _ _=>some d
 | .call d _ _=>d
 | .callr d _ _=>d
 | .callo d _ _=>d
 | .calls d _ _=>d
 | .mop _ d _=>d
 | .rng _ d _=>some d
 | .nxt d _=>some d
 | .ent d _=>some d
 | .st _ _ _=>none
def Opd.slots:Opd→List Nat
 | .s n=> [n]
 | .k _=> []
def uK:Option Opd→List Nat
 |some x=>x.slots
 |none=> []
def AI.reads:AI→List Nat
 | .mov _ x| .box _ x| .ld _ _ _ x| .off _ _ x| .un _ _ x| .len _ _ x| .ext _ _ x| .conv _ _ x| .b2s _ x=>x.slots
 | .pick _ c a b=>c.slots++(a.slots++b.slots)
 | .alloc _ _=> []
 | .st _ p x=>p.slots++x.slots
 | .offi _ _ _ x i| .idx _ _ x i| .bidx _ x i| .mx _ _ x i| .bin _ _ _ x i| .app _ _ _ x i| .appr _ _ _ x i| .eqs _ _ _ x i=>x.slots++i.slots
 | .build _ _ ps| .bsl _ _ _ _ ps=>ps.flatMap fun x=>x.2.2.slots
 | .call _ f args=>f.slots++args.flatMap Opd.slots
 | .callr _ f args=>f.slots++args.flatMap Opd.slots
 | .callo _ f args=>f.slots++args.flatMap Opd.slots
 | .calls _ f args=>f.slots++args.flatMap Opd.slots
 | .mop _ _ args=>args.flatMap Opd.slots
 | .rng _ _ x=>x.slots
 | .nxt _ x=>x.slots
 | .ent _ x=>x.slots
 | .sub _ _ _ x lo hi=>x.slots++(uK lo++uK hi)
 | .mkfn _ _ cap=>cap.flatMap Opd.slots
inductive Cl where
 |pure|ld|app|new|st|frz|strict|hard
def AI.cl:AI→Cl
 | .ld .. => .ld
 | .app .. => .app
 | .box .. | .alloc .. => .new
 | .st .. => .st
 | .mkfn .. => .frz
 | .callr .. | .appr .. => .strict
 | .calls .. | .mop .. | .rng .. | .nxt .. | .ent .. => .hard
 | .callo .. => .app
 |_=> .pure
def AI.still (i:AI):Bool:=match i.cl with
 | .pure| .ld=>true
 |_=>false
def AI.unw:AI→List Nat
 | .pick _ c _ _=>c.slots
 |i=>i.reads
def gd (b w:Bool):Bool:=match w with
 |true=>b
 |false=> !b
def GI.ctx (x:GI) (fr:Fr):Option (Option Bool):=
 match x.g with
 |none=>some none
 |some (s,w)=>match fr s with
  |some (.bool b)=>some (some (gd b w))
  |some (.when c (.bool b))=>some (some (c&&gd b w))
  |_=>none
def AV.isWhen:AV→Bool
 | .when _ _=>true
 |_=>false
def unwr (fr:Fr) (l:List Nat):Fr:=fun s=>match bO s l with
 |true=>match fr s with
  |some (.when c a)=>match a.isWhen with
   |false=>some a
   |true=>some (.when c a)
  |x=>x
 |false=>fr s
def fL (fr:Fr):List Nat→List Bool
 | []=> []
 |s::l=>match fr s with
  |some (.when c _)=>c::fL fr l
  |_=>fL fr l
def GM:List Bool→Prop
 | []=>True
 |b::l=>b=true∧GM l
def uL:List Bool→Option (List Bool)
 | []=>some []
 |b::l=>match uL l with
  |some r=>some (b::r)
  |none=>none
def bj (P:Program) (x:GI) (rs:Option RS) (fr:Fr) (st:St):Option (Fr×St×Prop):=
 match x.ctx fr with
 |some none=>aj P x.i rs fr st
 |some (some c)=>match x.i.still,x.i.dst with
  |true,some d=>match aj P x.i rs (unwr fr x.i.unw) st with
   |some (fr2,_,p)=>match fr2 d with
    |some v=>match v.isWhen,uL (fL fr x.i.unw) with
     |false,some g=>some (upd fr d (some (.when c v)),st,c=true→p∧GM g)
     |_,_=>none
    |none=>none
   |none=>none
  |_,_=>match x.i.cl with
   | .hard=>match aj P x.i rs (unwr fr x.i.unw) st with
    |some (fr2,st2,p)=>match uL (fL fr x.i.unw) with
     |some g=>some (fr2,st2,c=true∧p∧GM g)
     |none=>none
    |none=>none
   |_=>none
 |none=>none
def AI.silent:AI→Bool
 | .mov .. | .box .. | .alloc .. | .ld .. | .st .. | .off .. | .un .. | .build .. | .bsl .. | .len .. | .ext .. | .conv .. | .mkfn .. =>true
 | .bin _ op _ _ _=>match op with
  | .eql| .neq| .lss| .leq| .gtr| .geq| .sub| .mul| .and| .or| .xor=>true
  |_=>false
 |_=>false
def AI.loud (i:AI) (fr:Fr):Bool:=match i with
 | .ld _ _ _ p| .st _ p _=>match p.ev fr with
  |some (.pel _ _ _ _ _)=>true
  |_=>false
 |_=>false
def GI.quiet (x:GI) (fr:Fr):Bool:=match x.i.silent with
 |true=>match x.ctx fr with
  |some none=> !(x.i.loud fr)
  |some (some _)=>match fL fr x.i.unw with
   | []=> !(x.i.loud (unwr fr x.i.unw))
   |_::_=>false
  |none=>false
 |false=>false
def iS (P:Program):List GI→List RS→Fr→St→Option (List RS×Fr×St×Prop)
 | [],rs,fr,st=>some (rs,fr,st,True)
 |x::l,rs,fr,st=>match x.i.wantsRS with
  |true=>match rs with
   |r::rs=>match bj P x (some r) fr st with
    |some (fr,st,p)=>match iS P l rs fr st with
     |some (rs,fr,st,q)=>some (rs,fr,st,p∧q)
     |none=>none
    |none=>none
   | []=>none
  |false=>match x.quiet fr,bj P x none fr st with
   |true,some (fr,st,_)=>iS P l rs fr st
   |false,some (fr,st,p)=>match iS P l rs fr st with
    |some (rs,fr,st,q)=>some (rs,fr,st,p∧q)
    |none=>none
   |_,none=>none
def jN (P:Program) (t:TypeId):Value→Option AV
 | .int k n=>some (.int k n)
 | .bool b=>some (.bool b)
 | .string s=>some (.str s)
 | .slice none 0 0=>match P.underlying t with
  |some (.slice e)=>some (.lst .nil (P.cellsOf e) [])
  |_=>some (.lst .nil 0 [])
 | .pointer none=>some (.raw (.pointer none))
 | .map none=>some (.raw (.map none))
 | .nilFunc=>some (.raw .nilFunc)
 | .nilIface=>some (.raw .nilIface)
 |_=>none
def be (P:Program) (t:TypeId):Operand→Option Opd
 | .tmp n=>some (.s n)
 | .const v=>(jN P t v).map .k
 | .func f=>some (.k (.fn f []))
 | .global _=>none
def DV (P:Program):Nat→TypeId→List TypeId
 |0,_=> []
 |n+1,t=>match P.underlying t with
  |some (.struct g)=>g.toList.flatMap fun f=>DV P n f.type
  |some (.array k e)=>(List.replicate k (DV P n e)).flatten
  |_=> [t]
def ij (P:Program) (ts:List TypeId):List Value→Option (List AV)
 | []=>some []
 |v::vs=>match jN P (ts.headD 0) v,ij P ts.tail vs with
  |some a,some as=>some (a::as)
  |_,_=>none
def qo (P:Program) (t:TypeId):Option (List AV):=
 match P.info? t with
 |some i=>match i.zero with
  |some v=>ij P (DV P 8 t) v.cells.toList
  |none=>none
 |none=>none
def lE (P:Program) (t:TypeId):Bool:=
 match P.underlying t with
 |some (.struct _)|some (.array _ _)=>true
 |_=>false
def IH (P:Program) (t:TypeId):Bool:=
 match P.underlying t with
 |some (.struct _)=>true
 |some (.interface _)=>true
 |some (.pointer _)=>true
 |_=>false
def uM (P:Program) (op:BinOp) (t:TypeId):Option Bool:=
 match op with
 | .eql=>match IH P t with
  |true=>some false
  |false=>none
 | .neq=>match IH P t with
  |true=>some true
  |false=>none
 |_=>none
def zD (P:Program) (t:TypeId):Bool:=
 match P.underlying t with
 |some .bool=>true
 |_=>false
def pm (P:Program) (place:Nat→Option (Nat×Nat×TypeId)):List (Nat×Operand)→Option (List (Nat×Nat×Opd))
 | []=>some []
 |(i,x)::l=>match place i with
  |some (off,size,t)=>match be P t x,pm P place l,Nat.ble 1 size with
   |some x,some l,true=>some ((off,size,x)::l)
   |_,_,_=>none
  |none=>none
def bS (P:Program):List Operand→List TypeId→Option (List Opd)
 | [],_=>some []
 |x::l,ts=>match be P (ts.headD 0) x,bS P l ts.tail with
  |some x,some l=>some (x::l)
  |_,_=>none
def qp (P:Program):Option Operand→Option (Option Opd)
 |none=>some none
 |some x=>match be P 0 x with
  |some x=>some (some x)
  |none=>none
def Nx (mu:List Nat):Opd→Bool
 | .k (.fn f [])=>bO f mu
 |_=>false
def Ny (mu:List Nat):Opd→Bool
 | .k (.fn f [])=>bO (f+1000000) mu
 |_=>false
def MB (mu:List Nat):Opd→Bool
 | .k (.fn f [])=>bO (f+2000000) mu
 |_=>false
def aW (P:Program) (mu:List Nat) (gs:Bool) (o:Oper):Option AI:=
 match o.op with
 | .move x| .assign x=>match o.dst,be P o.type x with
  |some d,some x=>some (.mov d x)
  |_,_=>none
 | .pick c a b=>match o.dst,be P 0 c,be P o.type a,be P o.type b with
  |some d,some c,some a,some b=>some (.pick d c a b)
  |_,_,_,_=>none
 | .box t x=>match o.dst,be P t x with
  |some d,some x=>some (.box d x)
  |_,_=>none
 | .alloc t=>match Nat.beq t bT with
  |true=>match o.dst with
   |some d=>some (.mop (.bld t) (some d) [])
   |none=>none
  |false=>match o.dst,qo P t with
   |some d,some z=>some (.alloc d z)
   |_,_=>none
 | .load t p=>match o.dst,be P 0 p,P.info? t with
  |some d,some p,some i=>if (P.underlying t).isSome then some (.ld d i.size (lE P t) p) else none
  |_,_,_=>none
 | .store t p x=>match o.dst,be P 0 p,be P t x,P.info? t with
  |none,some p,some x,some i=>some (.st i.size p x)
  |_,_,_,_=>none
 | .fieldAddr t p j=>match o.dst,be P 0 p,P.underlying t with
  |some d,some p,some (.struct r)=>match r[j]? with
   |some f=>if (P.cellsOf f.type)=0 then none else some (.off d f.offset p)
   |none=>none
  |_,_,_=>none
 | .nilCheck x=>match o.dst,be P 0 x with
  |some d,some x=>some (.off d 0 x)
  |_,_=>none
 | .indexAddr t x i=>match o.dst,be P t x,be P 0 i,P.underlying t with
  |some d,some x,some i,some (.slice e)=>match P.info? e with
   |some g=>if 0<g.size then some (.idx d g.size x i) else none
   |none=>none
  |some d,some x,some i,some (.array n e)=>match P.info? e with
   |some g=>if 0<g.size then some (.offi d n g.size x i) else none
   |none=>none
  |_,_,_,_=>none
 | .index t x i=>match o.dst,be P t x,be P 0 i,P.underlying t with
  |some d,some x,some i,some .string=>some (.bidx d x i)
  |_,_,_,_=>none
 | .binOp op t x y _=>match o.dst,be P t x,be P t y with
  |some d,some x,some y=>match uM P op t with
   |some neg=>some (.eqs d neg t x y)
   |none=>some (.bin d op (zD P t) x y)
  |_,_,_=>none
 | .unOp op _ x=>match o.dst,be P 0 x with
  |some d,some x=>some (.un d op x)
  |_,_=>none
 | .build t ps=>match o.dst,qo P t,P.underlying t with
  |some d,some z,some (.struct r)=>match r.toList.mapM (fun f=>(P.info? f.type).map fun i=>(f.offset,i.size)) with
   |some C=>match pm P (fun i=>match C.toArray[i]?,r[i]? with|some (off,size),some f=>some (off,size,f.type)|_,_=>none) ps.toList with
    |some l=>some (.build d z l)
    |none=>none
   |none=>none
  |_,_,_=>none
 | .buildSlice t n ps=>match o.dst,P.underlying t with
  |some d,some (.slice e)=>match P.info? e,qo P e with
   |some g,some z=>if 0<g.size∧n*g.size≤16777216∧z.length=g.size then match pm P (fun i=>some (i*g.size,g.size,e)) ps.toList with
    |some l=>some (.bsl d n g.size (List.replicate n z).flatten l)
    |none=>none
    else none
   |_,_=>none
  |_,_=>none
 | .extract x i=>match o.dst,be P 0 x with
  |some d,some x=>some (.ext d i x)
  |_,_=>none
 | .slice t x lo hi none=>match o.dst,be P t x,qp P lo,qp P hi,P.underlying t with
  |some d,some x,some lo,some hi,some .string=>some (.sub d true 0 x lo hi)
  |some d,some x,some lo,some hi,some (.slice e)=>match P.info? e with
   |some g=>if 0<g.size then some (.sub d false g.size x lo hi) else none
   |none=>none
  |_,_,_,_,_=>none
 | .convert s t x=>match o.dst,be P s x,P.underlying s,P.underlying t with
  |some d,some x,some (.int _),some (.int k)=>some (.conv d k x)
  |some d,some x,some (.slice e),some .string=>match P.underlying e with
   |some (.int .u8)=>some (.b2s d x)
   |_=>none
  |_,_,_,_=>none
 | .lookup t x y ok=>match P.underlying t,o.dst with
  |some (.map k _),some d=>match bS P [x,y] [t,k] with
   |some args=>some (.mop (.get t ok) (some d) args)
   |none=>none
  |_,_=>none
 | .mapUpdate t x y z=>match P.underlying t,o.dst with
  |some (.map k e),none=>match bS P [x,y,z] [t,k,e] with
   |some args=>some (.mop (.set t) none args)
   |none=>none
  |_,_=>none
 | .makeMap t none=>match o.dst with
  |some d=>some (.mop (.new t) (some d) [])
  |none=>none
 | .range t x=>match P.underlying t,o.dst,be P t x with
  |some (.map _ _),some d,some x=>some (.rng t d x)
  |_,_,_=>none
 | .next x false=>match o.dst,be P 0 x with
  |some d,some x=>some (.nxt d x)
  |_,_=>none
 | .entry x=>match o.dst,be P 0 x with
  |some d,some x=>some (.ent d x)
  |_,_=>none
 | .makeFunc (.func f) first cap=>match o.dst,bS P cap.toList [],first.size with
  |some d,some cap,0=>some (.mkfn d f cap)
  |_,_,_=>none
 | .call c=>match c.callee with
  | .value f=>match be P 0 f,bS P c.args.toList c.argTypes.toList with
   |some f,some args=>match Nx mu f with
    |true=>some (.callr o.dst f args)
    |false=>match Ny mu f with
     |true=>some (.callo o.dst f args)
     |false=>match MB mu f with
      |true=>some (.calls o.dst f args)
      |false=>some (.call o.dst f args)
   |_,_=>none
  | .builtin .len=>match o.dst,c.args.toList,c.argTypes.toList with
   |some d,[x],[t]=>match be P t x,P.underlying t with
    |some x,some .string=>some (.len d true x)
    |some x,some (.slice _)=>some (.len d false x)
    |some x,some (.map _ _)=>some (.mop (.len t o.type) (some d) [x])
    |_,_=>none
   |_,_,_=>none
  | .builtin .delete=>match c.args.toList,c.argTypes.toList with
   | [x,y],[t,k]=>match bS P [x,y] [t,k] with
    |some args=>some (.mop (.del t k o.type) o.dst args)
    |none=>none
   |_,_=>none
  | .builtin .max=>match o.dst,c.args.toList with
   |some d,[x,y]=>match be P 0 x,be P 0 y with
    |some x,some y=>some (.mx d false x y)
    |_,_=>none
   |_,_=>none
  | .builtin .min=>match o.dst,c.args.toList with
   |some d,[x,y]=>match be P 0 x,be P 0 y with
    |some x,some y=>some (.mx d true x y)
    |_,_=>none
   |_,_=>none
  | .builtin .append=>match o.dst,c.args.toList,c.argTypes.toList with
   |some d,[x,y],[t,u]=>match be P t x,be P t y,P.underlying t with
    |some x,some y,some (.slice e)=>match P.info? e with
     |some g=>match g.zero with
      |some z=>if z.cells.all Value.oneCell' &&Nat.beq t u&&Nat.beq z.cells.size g.size&&Nat.ble 1 g.size&&Nat.ble 1 g.bytes then (match bO (d+4000000) mu with|true=>some (.appr d g.size g.bytes x y)|false=>some (.app d g.size g.bytes x y)) else none
      |none=>none
     |none=>none
    |_,_,_=>none
   |_,_,_=>none
  |_=>none
 |_=>none
def jO (g:Array Oper) (o:Oper):Option (Option (Nat×Bool)):=
 match o.guard with
 |none=>some none
 |some (j,b)=>match (g[j]?).bind (·.dst) with
  |some d=>some (some (d,b))
  |none=>none
def zH (g:Array Oper) (k:Nat):Bool:=g.any fun o=>match o.guard with|some (j,_)=>Nat.beq j k|none=>false
def FL:Option Nat→Option Nat→Bool
 |none,none=>true
 |some a,some b=>Nat.beq a b
 |_,_=>false
def sh (P:Program) (mu:List Nat) (j:Array Oper):Nat→List Oper→Option (List GI)
 |_,[]=>some []
 |k,o::l=>match jO j o,aW P mu (zH j k) o,sh P mu j (k+1) l with
  |some g,some i,some r=>match FL i.dst o.dst with
   |true=>some (⟨g,i⟩::r)
   |false=>none
  |_,_,_=>none
end
section
open Go.RowKit
structure Env where
 w0:World
 n:Nat
 σ0:Sg
 gw:GW w0
 B0:Nat→Option Nat
 kgl: ∀id b,B0 id=some b→ ¬ob b
 Kx:Nat→Prop
 kgx: ∀b,Kx b→ ¬ob b
def Env.K0 (E:Env) (b:Nat):Prop:=(∃id,E.B0 id=some b)∨E.Kx b
theorem Env.K0gl {E:Env} {b:Nat} (h:E.K0 b): ¬ob b:=by
 rcases h with ⟨id,h⟩|h
 ·exact E.kgl id b h
 ·exact E.kgx b h
def Env.own (E:Env) (g:Nat):Prop:=E.w0.heap.size≤g∨E.K0 g
theorem Env.gwb {E:Env} {w:World} (h:BelowK E.K0 E.w0 w):GW w:=E.gw.belowK (fun b hb=>E.K0gl hb) h
theorem Env.ownGl {E:Env} {b:Nat} (h:E.own b): ¬ob b:=fun hg=>by
 rcases h with h|h
 ·have:=E.gw.lt hg;omega
 ·exact E.K0gl h hg
theorem yy {E:Env} {w:World} {g:Nat} {vs:Array Value} (h:BelowK E.K0 E.w0 w) (hg:E.own g):BelowK E.K0 E.w0 (w.setRow g vs):=by
 refine h.trans (K' :=fun b=>b=g) ?_ ?_
 ·obtain ⟨i,j,p,r,_⟩:=below_setRow (Below.refl g w) (gA4 _) vs
  exact ⟨i,j,p,r,fun k _ hn=>setRow_other w g k _ hn⟩
 ·rintro x rfl
  exact hg.symm
structure FRow where
 g:Nat
 cap:Nat
 esz:Nat
 rows:List (List AV)
structure Gho where
 σ:Sg
 B:Nat→Option Nat
 ρ:Nat→Nat→Option RowI
 φ:Nat→Option FRow
def TagOk (G:Gho) (v:Value) (a:AV):Prop:=
 match a with
 | .lst (.own s ver) esz l=>(l.length=0∧ ∃A,v= .slice A l.length l.length∧(ew s=true→A=none))∨ ∃g cap,v= .slice (some ⟨g,0,none⟩) l.length cap∧G.ρ s ver=some ⟨g,l.length,esz,cap,ew s⟩
 | .sli id _ n cap=>1000000≤id∧n≤cap∧ ∃g,v= .slice (some ⟨g,0,none⟩) n cap∧ ∀g',G.B id=some g' →g' =g
 | .frs k esz rows=> ∃g cap,G.φ k=some ⟨g,cap,esz,rows⟩∧v= .slice (some ⟨g,0,none⟩) rows.length cap
 | .np id off=>1000000≤id∧ ∃g,v=npV id g off∧ ∀g',G.B id=some g' →g' =g
 |_=>True
def TagsOk (G:Gho) (vs:List Value) (cs:List AV):Prop:= ∀(j:Nat) v a,vs[j]? =some v→cs[j]? =some a→TagOk G v a
def RelT (G:Gho) (v:Value) (a:AV):Prop:=
 match a with
 | .np id off=>Rel1 G.σ v .top∧TagOk G v (.np id off)
 | .sli id e n c=>Rel1 G.σ v .top∧TagOk G v (.sli id e n c)
 | .frs k e r=>Rel1 G.σ v .top∧TagOk G v (.frs k e r)
 | .lst t e l=>Rel1 G.σ v (AV.lst t e l).unown∧TagOk G v (.lst t e l)
 | .agg cs=> ∃vs:List Value,v= .agg vs.toArray∧RelL G.σ vs (cs.map AV.unown)∧TagsOk G vs cs
 |a=>RelP G.σ v a
def RelS0 (G:Gho) (v:Value) (a:AV):Prop:=
 match a with
 | .when _ _=>False
 | .agg cs=> ∃vs:List Value,v= .agg vs.toArray∧RelL G.σ vs (cs.map AV.unown)∧TagsOk G vs cs
 | .tup l=> ∃vs:List Value,v= .tuple vs.toArray∧vs.length=l.length∧ ∀(j:Nat) u x,vs[j]? =some u→l[j]? =some x→RelT G u x
 | .ptr id off=> ∃g,G.B id=some g∧v= .pointer (some ⟨g,off,none⟩)∧id<800000
 | .pel id esz i k _=>1000000≤id∧ ∃g,v= .pointer (some ⟨g,i*esz+k,none⟩)∧ ∀g',G.B id=some g' →g' =g
 |a=>Rel1 G.σ v a.unown∧TagOk G v a
def RelS (G:Gho) (v:Value) (a:AV):Prop:=
 match a with
 | .when c a=>(c=true→RelS0 G v a)∧(c=false→v=undef)
 |a=>RelS0 G v a
structure Gho.le (G G' :Gho):Prop where
 σ:G.σ.le G'.σ
 ρ: ∀s v x,G.ρ s v=some x→G'.ρ s v=some x
 φ: ∀k x,G.φ k=some x→G'.φ k=some x
 B: ∀id g,1000000≤id→G'.B id=some g→G.B id=some g
theorem TagOk.mono {G G' :Gho} (h:G.le G') {v:Value} {a:AV} (ht:TagOk G v a):TagOk G' v a:=by
 unfold TagOk at ht⊢;split at ht
 ·rcases ht with ht|⟨g,cap,i,j⟩
  ·exact .inl ht
  ·exact .inr ⟨g,cap,i,h.ρ _ _ _ j⟩
 ·obtain ⟨p,r,g,i,j⟩:=ht
  exact ⟨p,r,g,i,fun g' hg=>j g' (h.B _ _ p hg)⟩
 ·obtain ⟨g,cap,i,j⟩:=ht
  exact ⟨g,cap,h.φ _ _ i,j⟩
 ·obtain ⟨p,g,i,j⟩:=ht
  exact ⟨p,g,i,fun g' hg=>j g' (h.B _ _ p hg)⟩
 ·trivial
theorem TagsOk.mono {G G' :Gho} (h:G.le G') {vs:List Value} {cs:List AV} (ht:TagsOk G vs cs):TagsOk G' vs cs:=
 fun j v a g i=>(ht j v a g i).mono h
theorem RelT.mono {G G' :Gho} (h:G.le G') {v:Value} {a:AV} (ht:RelT G v a):RelT G' v a:=by
 cases a<;>simp only [RelT] at ht⊢ <;>first
  |exact RelP.mono h.σ ht
  |exact ⟨ht.1.mono h.σ,ht.2.mono h⟩
  |(obtain ⟨vs,rfl,g,i⟩:=ht;exact ⟨vs,rfl,g.mono h.σ,i.mono h⟩)
theorem RelT.plain {G:Gho} {v:Value} {a:AV} (h:RelT G v a) (hn:(match a with| .np _ _=>false| .sli _ _ _ _=>false| .frs _ _ _=>false| .agg _=>false| .lst _ _ _=>false|_=>true)=true):RelP G.σ v a:=by
 cases a<;>first
  |exact h
  |cases hn
theorem RelS0.mono {G G' :Gho} (h:G.le G') {v:Value} {a:AV} (C: ∀id off g,a= .ptr id off→G.B id=some g→G'.B id=some g) (hr:RelS0 G v a):RelS0 G' v a:=by
 cases a<;>simp only [RelS0] at hr⊢ <;>first
  |exact ⟨hr.1.mono h.σ,hr.2.mono h⟩
  |(obtain ⟨vs,rfl,i,p⟩:=hr;exact ⟨vs,rfl,i,fun j u x I J=>(p j u x I J).mono h⟩)
  |(obtain ⟨vs,rfl,i,p⟩:=hr;exact ⟨vs,rfl,i.mono h.σ,p.mono h⟩)
  |(obtain ⟨r,g,i,p⟩:=hr;exact ⟨r,g,i,fun g' hg=>p g' (h.B _ _ r hg)⟩)
  |(obtain ⟨g,i,p⟩:=hr;exact ⟨g,C _ _ _ rfl i,p⟩)
theorem RelS.mono {G G' :Gho} (h:G.le G') {v:Value} {a:AV} (i: ∀id off g,(a= .ptr id off∨ ∃c,a= .when c (.ptr id off))→G.B id=some g→G'.B id=some g) (hr:RelS G v a):RelS G' v a:=by
 cases a<;>first
  |exact RelS0.mono h (fun id off g e hg=>i id off g (.inl e) hg) hr
  |exact ⟨fun j=>RelS0.mono h (fun id off g e hg=>i id off g (.inr ⟨_,by rw [e]⟩) hg) (hr.1 j),hr.2⟩
theorem RelS0.mono2 {G G' :Gho} (h:G.le G') {v:Value} {a:AV} (i: ∀id g,id<1000000→G.B id=some g→G'.B id=some g) (hr:RelS0 G v a):RelS0 G' v a:=by
 cases a with
 |ptr id off=>obtain ⟨g,j,p,r⟩:=hr;exact ⟨g,i _ _ (by omega) j,p,r⟩
 |_=>exact hr.mono h (fun id off g e=>by cases e)
theorem RelS.mono2 {G G' :Gho} (h:G.le G') {v:Value} {a:AV} (i: ∀id g,id<1000000→G.B id=some g→G'.B id=some g) (hr:RelS G v a):RelS G' v a:=by
 cases a<;>simp only [RelS] at hr⊢ <;>first
  |exact RelS0.mono2 h i hr
  |exact ⟨fun j=>RelS0.mono2 h i (hr.1 j),hr.2⟩
def Me (E:Env) (G:Gho) (w:World) (id g:Nat) (cs:List AV) (fz:Bool):Prop:=
 E.own g∧ ∃t vs,HeapAt w g id t vs∧RelL G.σ vs.toList (cs.map AV.unown)∧TagsOk G vs.toList cs∧
  (if fz then∀(j:Nat) v,vs[j]? =some v→G.σ g j=some v else∀j,G.σ g j=none)
def II (E:Env) (G:Gho) (w:World) (r:RowI):Prop:=
 E.own r.g∧ ∃e g,w.heap[r.g]? =some (.cells g e (0,0))∧(r.n≤r.cap∧(r.bl=true→e=5))∧(g.size=r.cap*r.esz∧ ∀u∈g.toList,u.oneCell' =true)∧ ∀j,r.n*r.esz≤j→G.σ r.g j=none
def MC (E:Env) (G:Gho) (w:World) (x:FRow):Prop:=E.own x.g∧FRowW G.σ w x.g x.cap x.esz x.rows
theorem FRowW.on {σ σ' :Sg} {w w' :World} {g cap esz:Nat} {rows:List (List AV)} (h:FRowW σ w g cap esz rows) (i:σ.le σ') (r:w'.heap[g]? =w.heap[g]?) (hn: ∀j,σ' g j=none):FRowW σ' w' g cap esz rows:=by
 obtain ⟨e,p,C,I,J,P,R,T,_⟩:=h;exact ⟨e,p,by rw [r];exact C,I,J,P,R.mono i,T,hn⟩
theorem FRowW.free {σ:Sg} {w:World} {g cap esz:Nat} {rows:List (List AV)} (h:FRowW σ w g cap esz rows): ∀j,σ g j=none:=by
 obtain ⟨e,i,r,C,I,J,P,R,p⟩:=h;exact p
theorem FRowW.lt {σ:Sg} {w:World} {g cap esz:Nat} {rows:List (List AV)} (h:FRowW σ w g cap esz rows):g<w.heap.size:=by
 obtain ⟨e,i,j,_⟩:=h;exact (gC0 j).1
structure Conc (E:Env) (G:Gho) (fr:Fr) (st:St) (a:Act) (w:World):Prop where
 defers:a.defers= []
 size:a.tmps.size=E.n
 slots: ∀s x,fr s=some x→RelS G (a.tmps.getD s undef) x
 hold:Holds G.σ w
 ext:ExtK E.K0 E.σ0 G.σ E.w0.heap.size
 below:BelowK E.K0 E.w0 w
 box: ∀id cs fz,st.box id=some (cs,fz)→ ∃g,G.B id=some g∧Me E G w id g cs fz
 bnone: ∀id,st.box id=none→G.B id=none
 binj: ∀id id' g,G.B id=some g→G.B id' =some g→id=id'
 row: ∀s r,G.ρ s (st.row s)=some r→II E G w r∧ ∀id,G.B id≠some r.g
 rinj: ∀s s' r r',G.ρ s (st.row s)=some r→G.ρ s' (st.row s')=some r' →r.g=r'.g→s=s'
 rlt: ∀s v x,G.ρ s v=some x→v≤st.row s
 phi: ∀k x,G.φ k=some x→MC E G w x∧(∀id,G.B id≠some x.g)∧ ∀s r,G.ρ s (st.row s)=some r→r.g≠x.g
 phinj: ∀k k' x x',G.φ k=some x→G.φ k' =some x' →x.g=x'.g→k=k'
 pnone: ∀k,fr k=none→G.φ k=none
 small:E.n≤800000
 keep: ∀id g,2000000≤id→G.B id=some g→E.B0 id=some g
section
variable {E:Env} {G G' :Gho} {fr:Fr} {st:St} {a:Act} {w w' :World}
theorem uN (a:Act) {d:Nat} (v:Value) (s:Nat) (g:d<a.tmps.size):(a.put (some d) v).tmps.getD s undef=if s=d then v else a.tmps.getD s undef:=by
 unfold Act.put;simp only [Array.getD_eq_getD_getElem?,Array.getElem?_setIfInBounds];by_cases h:d=s
 ·subst h;simp [g]
 ·rw [if_neg h,if_neg (fun e=>h e.symm)]
theorem uO (a:Act) (d:Option Nat) (v:Value):(a.put d v).tmps.size=a.tmps.size:=by cases d<;>simp [Act.put]
theorem od (a:Act) (d:Option Nat) (v:Value):(a.put d v).defers=a.defers:=by cases d<;>rfl
theorem Conc.put (h:Conc E G fr st a w) {d:Nat} (p:d<E.n) {v:Value} {x:AV} (r:RelS G v x):Conc E G (aG fr d x) st (a.put (some d) v) w:=
 { h with
   defers:=by rw [od];exact h.defers
   size:=by rw [uO];exact h.size
   slots:=fun s y g=>by
    rw [uN a v s (by rw [h.size];exact p)];unfold aG at g;rw [ax] at g;by_cases i:s=d
    ·rw [if_pos i] at g⊢;cases g;exact r
    ·rw [if_neg i] at g⊢;exact h.slots s y g
   pnone:=fun k j=>h.pnone k (by
    unfold aG at j;rw [ax] at j;split at j
    ·cases j
    ·exact j)}
theorem Conc.putW (h:Conc E G fr st a w) {d:Nat} (g:d<E.n) {v:Value} {c:Bool} {x:AV} (i:(c=true→RelS0 G v x)∧(c=false→v=undef)):Conc E G (upd fr d (some (.when c x))) st (a.put (some d) v) w:=h.put g (x:= .when c x) i
theorem ea {w:World} {g:Nat} {o:Obj} (h:w.heap[g]? =some o):g<w.heap.size:=(gC0 h).1
theorem Conc.lt (h:Conc E G fr st a w):E.w0.heap.size≤w.heap.size:=h.below.size
theorem Conc.world (h:Conc E G fr st a w) (hb:Below w.heap.size w w') {σ' :Sg} (i:Ext G.σ σ' w.heap.size) (hh:Holds σ' w'):Conc E {G with σ:=σ' } fr st a w' :=
 have C:G.le {G with σ:=σ' }:=⟨i.1,fun _ _ _ h=>h,fun _ _ h=>h,fun _ _ _ h=>h⟩
 { defers:=h.defers
   size:=h.size
   slots:=fun s x I=>(h.slots s x I).mono C fun _ _ _ _ hg=>hg
   hold:=hh
   ext:=h.ext.trans (i.toK fun _=>False) h.lt (fun _ h=>False.elim h)
   below:=h.below.trans (BelowK.of hb fun _=>False) (fun _ h=>False.elim h)
   box:=fun id cs fz I=>by
    obtain ⟨g,J,P,t,vs,p,R,T,h6⟩:=h.box id cs fz I;have hg:=p.lt;refine ⟨g,J,P,t,vs,p.of (hb.block g hg),R.mono i.1,T.mono C,?_⟩;cases fz with
    |true=>exact fun j v hv=>i.1 _ _ _ (h6 j v hv)
    |false=>exact fun j=>by rw [show ({G with σ:=σ' }:Gho).σ g j=σ' g j from rfl,i.2 g j hg];exact h6 j
   bnone:=h.bnone
   binj:=h.binj
   row:=fun s r I=>by
    obtain ⟨⟨J,e,U,p,R,T,h8⟩,h9⟩:=h.row s r I;have hg:=ea p;exact ⟨⟨J,e,U,by rw [hb.block r.g hg];exact p,R,T,fun j hj=>by rw [show ({G with σ:=σ' }:Gho).σ r.g j=σ' r.g j from rfl,i.2 r.g j hg];exact h8 j hj⟩,h9⟩
   rinj:=h.rinj
   rlt:=h.rlt
   phi:=fun k x hk=>by
    obtain ⟨⟨J,P⟩,p,R⟩:=h.phi k x hk;have hg:=P.lt;exact ⟨⟨J,P.on i.1 (hb.block _ hg) fun j=>by rw [show ({G with σ:=σ' }:Gho).σ x.g j=σ' x.g j from rfl,i.2 x.g j hg];exact P.free j⟩,p,R⟩
   phinj:=h.phinj
   pnone:=h.pnone
   small:=h.small
   keep:=h.keep}
theorem Conc.same (h:Conc E G fr st a w) (hb:Below w.heap.size w w'):Conc E G fr st a w' :=
 h.world hb (Ext.refl _ _) fun b o v i=>by
  have:=h.hold b o v i;have g:=World.block_lt_of_cell? w _ this;exact (hb.cell (p:=⟨b,o,none⟩) g).trans this
theorem RelS.of1 {v:Value} {c:AV} (h:Rel1 G.σ v c):RelS G v c:=by
 have g:=h.unown
 have ht:TagOk G v c:=by
  cases c<;>try trivial
  rename_i t esz l;cases t<;>first|trivial|cases g
 have i:Rel1 G.σ v c.unown:=by rw [g];exact h
 cases c<;>simp only [RelS,RelS0]<;>first
  |exact ⟨i,ht⟩
  |cases h
theorem RelS.mk1 {v:Value} {c:AV} (h:Rel1 G.σ v c.unown) (ht:TagOk G v c):RelS G v c:=by
 cases c<;>simp only [RelS,RelS0]<;>first
  |exact ⟨h,ht⟩
  |cases h
theorem RelL.map_unown {σ:Sg} {vs:List Value} {cs:List AV} (h:RelL σ vs cs):cs.map AV.unown=cs:=by
 apply List.ext_getElem?;intro j;rw [gA8];cases g:cs[j]? with
 |none=>rfl
 |some c=>
  obtain ⟨v,_,hr⟩:=h.at_ g;simp [hr.unown]
theorem RelL.tags {σ:Sg} {G:Gho} {vs:List Value} {cs:List AV} (h:RelL σ vs cs):TagsOk G vs cs:=by
 intro j v c g i;have p:=(h.2 j v c g i).unown;cases c<;>try trivial
 rename_i t esz l;cases t<;>first|trivial|cases p
theorem RelT.of {G:Gho} {v:Value} {a:AV} (h:RelP G.σ v a):RelT G v a:=by
 cases a<;>first
  |exact h
  |(rename_i t e l;have g:Rel1 G.σ v (.lst t e l):=h;have i:=g.unown;exact ⟨by rw [i];exact g,by cases t<;>first|trivial|cases i⟩)
  |(obtain ⟨vs,e,g⟩:=h;exact ⟨vs,e,by rw [g.map_unown];exact g,g.tags⟩)
  |cases (h:Rel1 _ _ _)
theorem RelS0.ofTup {G:Gho} {v:Value} {l:List AV} (h:RelR G.σ v (.tup l)):RelS0 G v (.tup l):=by
 obtain ⟨vs,e,g,i⟩:=h;exact ⟨vs,e,g,fun j u x p r=> .of (i j u x p r)⟩
theorem yz {P:Program} {t:TypeId} {v:Value} {c:AV} (h:jN P t v=some c) (G:Gho):RelS G v c:=by
 unfold jN at h
 split at h<;>first
  |(cases h;exact ⟨.int _ _,trivial⟩)
  |(cases h;exact ⟨.bool _,trivial⟩)
  |(cases h;exact ⟨.str _,trivial⟩)
  |(cases h;exact ⟨.raw _ rfl,trivial⟩)
  |(split at h<;>cases h<;>exact ⟨.lst .nil _ [] none 0 0 0 0 (fun _ _=>undef) rfl (gA4 _) (fun h=>absurd h (by simp)) (fun i c h=>by simp at h) (fun i j h=>by omega) (fun i j c a h=>by simp at h) ⟨rfl,rfl,rfl⟩,trivial⟩)
  |cases h
theorem Conc.ev (h:Conc E G fr st a w) {P:Program} {t:TypeId} {x:Operand} {y:Opd} (hy:be P t x=some y) {c:AV} (i:y.ev fr=some c):RelS G (a.eval x) c:=by
 cases x with
 |tmp n=>cases hy;exact h.slots n c i
 |const v=>
  change (jN P t v).map Opd.k=some y at hy;cases p:jN P t v with
  |none=>rw [p] at hy;cases hy
  |some k=>
   rw [p] at hy;cases hy;cases i;exact yz p G
 |func f=>
  cases hy;cases i;exact ⟨.fn f [] [] rfl (fun _=>undef) (fun j v h=>by simp at h) (fun j a h=>by simp at h),trivial⟩
 |global g=>cases hy
theorem RelS.int {v:Value} {k:IntKind} {n:Int} (h:RelS G v (.int k n)):v= .int k n:=by have:=(h.1:Rel1 G.σ v (.int k n));cases this;rfl
theorem RelS.bool {v:Value} {b:Bool} (h:RelS G v (.bool b)):v= .bool b:=by have:=(h.1:Rel1 G.σ v (.bool b));cases this;rfl
theorem RelS.str {v:Value} {s:ByteArray} (h:RelS G v (.str s)):v= .string s:=by have:=(h.1:Rel1 G.σ v (.str s));cases this;rfl
theorem RelS.raw {v u:Value} (h:RelS G v (.raw u)):v=u:=by have:=(h.1:Rel1 G.σ v (.raw u));cases this;rfl
theorem RelS.cells {v:Value} {x:AV} {cs:List AV} (h:RelS G v x) (g:x.vcells=some cs):RelL G.σ v.cells.toList (cs.map AV.unown)∧TagsOk G v.cells.toList cs:=by
 have single: ∀x:AV,Rel1 G.σ v x.unown∧TagOk G v x→RelL G.σ v.cells.toList ([x].map AV.unown)∧TagsOk G v.cells.toList [x]:=by
  intro x i;have p:=i.1.one;have r:v.cells= #[v]:=by cases v<;>first|rfl|(simp [Value.oneCell'] at p)
  rw [r];refine ⟨.cons i.1 .nil,fun j u y C hy=> ?_⟩;cases j with
  |zero=>simp at C hy;subst C hy;exact i.2
  |succ j=>simp at C
 cases x<;>simp only [AV.vcells] at g<;>first
  |(cases g;exact single _ h)
  |(cases g;obtain ⟨vs,rfl,p,r⟩:=h;exact ⟨by simpa [Value.cells] using p,by simpa [Value.cells] using r⟩)
  |cases g
theorem RelS.arg {v:Value} {x y:AV} (h:RelS G v x) (hy:x.arg=some y):RelP G.σ v y:=by
 cases x<;>simp only [AV.arg] at hy<;>first
  |(cases hy;have:=h.1.plain;rw [cD] at this;exact this)
  |(cases hy;obtain ⟨vs,rfl,g,i⟩:=h;refine ⟨vs,rfl,?_⟩;have:=g.plain;rw [List.map_map] at this;have e:(AV.plain∘AV.unown)=AV.plain:=funext cD;rw [e] at this;exact this)
  |cases hy
end
end
end Go.Proofs.YtbgflifmanjpjaaGreatDoor
