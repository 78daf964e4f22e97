/- Part 48. -/
import Derived.Test.YtbgflifmanjpjaaGreatDoorS47
set_option linter.unusedSimpArgs false
set_option linter.unusedVariables false
namespace Go.Proofs.YtbgflifmanjpjaaGreatDoor
section
open Go.RowKit
def AV.stab1:AV→Bool
 | .np id _=>Nat.blt id 1000000||Nat.ble 2000000 id
 | .sli _ _ _ _| .frs _ _ _| .pel _ _ _ _ _| .agg _| .tup _| .when _ _=>false
 | .lst (.own _ _) _ _=>false
 |_=>true
def AV.stab:AV→Bool
 | .agg cs=>cs.all AV.stab1
 |a=>a.stab1
theorem mw {N:List Nat} (g: ∀i∈N,1000000≤i∧i<2000000) {a:AV} (h:a.stab1=true):db N a=a:=by
 cases a with
 |np id o=>
  have:bW id N=false:=by
   cases j:bW id N with
   |false=>rfl
   |true=>
    have p:=g id (iY.1 j);simp only [AV.stab1,Bool.or_eq_true,Nat.blt_eq,Nat.ble_eq] at h;omega
  simp only [db,this]
 |sli _ _ _ _=>cases h
 |_=>rfl
theorem yq {N:List Nat} (g: ∀i∈N,1000000≤i∧i<2000000) {a:AV} (h:a.stab=true):yE N a=a:=by
 cases a with
 |agg cs=>
  show AV.agg (cs.map (db N))=_;congr 1;exact (List.map_congr_left fun x j=>mw g (List.all_eq_true.1 h x j)).trans (List.map_id _)
 |pel _ _ _ _ _=>cases h
 |tup _=>cases h
 | «when» _ _=>cases h
 |np id o=>exact mw g (a:= .np id o) h
 |sli _ _ _ _=>cases h
 |_=>rfl
theorem yr {k id cap:Nat} (hid:1000000≤id∧id<2000000) {a:AV} (h:a.stab1=true):fF k id cap a=a:=by
 cases a with
 |np i o=>
  have:Nat.beq i id=false:=by
   cases g:Nat.beq i id with
   |false=>rfl
   |true=>
    have:=Nat.eq_of_beq_eq_true g;subst this;simp only [AV.stab1,Bool.or_eq_true,Nat.blt_eq,Nat.ble_eq] at h;omega
  simp only [fF,this]
 |sli _ _ _ _=>cases h
 |frs _ _ _=>cases h
 |_=>rfl
theorem yt {k id cap:Nat} (hid:1000000≤id∧id<2000000) {a:AV} (h:a.stab=true):GK k id cap a=a:=by
 cases a with
 |agg cs=>
  have h:cs.all AV.stab1=true:=h;show AV.agg (cs.map (fF k id cap))=_;rw [List.map_congr_left (fun c g=>yr hid (List.all_eq_true.1 h c g)),List.map_id']
 |tup _=>cases h
 |pel _ _ _ _ _=>cases h
 |when _ _=>cases h
 |np i o=>exact yr (k:=k) (cap:=cap) (a:= .np i o) hid h
 |sli _ _ _ _=>cases h
 |frs _ _ _=>cases h
 |_=>rfl
theorem yu (g:AV→AV): ∀(n:Nat) (l:List AV),gb n (l.map g)=(gb n l).map (List.map g)
 |0,_=>rfl
 |n+1,[]=>rfl
 |n+1,_::l=>yu g n l
theorem yv (g:AV→AV): ∀(n:Nat) (l:List AV),eY n (l.map g)=(eY n l).map (List.map g)
 |0,_=>rfl
 |n+1,[]=>rfl
 |n+1,a::l=>by
  simp only [List.map_cons,eY,yv g n l];cases eY n l<;>rfl
theorem Cd (g:AV→AV): ∀(n:Nat) (l:List AV),no n (l.map g)=(no n l).map g
 |0,[]=>rfl
 |0,_::_=>rfl
 |n+1,[]=>rfl
 |n+1,_::l=>Cd g n l
def nj (n:Nat) (agg:Bool) (o:Nat) (cs:List AV):Option AV:=match gb o cs with
 |some c=>match agg with
  |true=>match eY n c with
   |some c=>match c.all AV.stab1 with
    |true=>some (.agg c)
    |false=>none
   |none=>none
  |false=>match no 0 c with
   |some a=>match a.stab1 with
    |true=>some a
    |false=>none
   |none=>none
 |none=>none
theorem DX {n:Nat} {agg:Bool} {o:Nat} {cs:List AV} {a:AV} (h:nj n agg o cs=some a):a.stab=true:=by
 unfold nj at h
 repeat' split at h
 all_goals first|cases h;done|skip
 ·cases h;assumption
 ·rename_i x i g
  cases h;cases a<;>first|exact g|cases g
theorem F5 {N:List Nat} (j: ∀i∈N,1000000≤i∧i<2000000) {n:Nat} {agg:Bool} {o:Nat} {cs:List AV} {a:AV} (h:nj n agg o cs=some a):nj n agg o (cs.map (db N))=some a:=by
 unfold nj at h⊢;rw [yu];cases hd:gb o cs with
 |none=>rw [hd] at h;cases h
 |some c=>
  rw [hd] at h;cases agg with
  |true=>
   simp only [Option.map_some,yv] at h⊢;cases ht:eY n c with
   |none=>rw [ht] at h;cases h
   |some c' =>
    rw [ht] at h;simp only [Option.map_some] at h⊢;cases g:c'.all AV.stab1 with
    |false=>rw [g] at h;cases h
    |true=>
     rw [g] at h;have e:c'.map (db N)=c' :=(List.map_congr_left fun x p=>mw j (List.all_eq_true.1 g x p)).trans (List.map_id _);rw [e,g];exact h
  |false=>
   simp only [Option.map_some,Cd] at h⊢;cases ht:no 0 c with
   |none=>rw [ht] at h;cases h
   |some x=>
    rw [ht] at h;simp only [Option.map_some] at h⊢;cases g:x.stab1 with
    |false=>rw [g] at h;cases h
    |true=>
     rw [g] at h;rw [mw j g,g];exact h
def da (x:GI) (fr:Fr) (st:St):Option (Nat×AV×Option Nat):=match x with
 |⟨none,.mov d (.s s)⟩=>match fr s with
  |some a=>match a.stab with
   |true=>some (d,a,none)
   |false=>none
  |none=>none
 |⟨none,.off d k (.s s)⟩=>match fr s with
  |some (.ptr id o)=>some (d,.ptr id (o+k),none)
  |some (.np id o)=>match aW id,(AV.np id o).stab with
   |false,true=>some (d,.np id (o+k),none)
   |_,_=>none
  |_=>none
 |⟨none,.bsl d n esz z [(0,m,.s s)]⟩=>match fr s with
  |some y=>match y.stab,lu fr z [(0,m,.s s)] with
   |true,some cs=>match Ah esz n cs with
    |some l=>some (d,.lst .full esz l,none)
    |none=>none
   |_,_=>none
  |none=>none
 |⟨none,.ld d n agg (.s s)⟩=>match fr s with
  |some (.ptr id o)=>match Nat.blt id 1000000,st.cbox id with
   |true,some (cs,_)=>match nj n agg o cs with
    |some a=>some (d,a,some id)
    |none=>none
   |_,_=>none
  |_=>none
 |_=>none
section
variable {P:Program} {x:GI} {fr:Fr} {st:St} {d:Nat} {a:AV} {b:Option Nat}
theorem fk (h:da x fr st=some (d,a,b)):a.stab=true∧x.i.dst=some d∧x.g=none∧((b=none∧ ∃s,s∈x.looks∧(∃y,fr s=some y∧y.stab=true)∧ ∀(rs:Option RS) (f:Fr) (t:St),f s=fr s→aS P x rs f t=some (az f d a,t,True)∧da x f t=some (d,a,none))∨
  ∃id s cs n agg o,b=some id∧id<1000000∧s∈x.looks∧(∃y,fr s=some y∧y.stab=true)∧x.i.cl= .ld∧(∃z,st.cbox id=some (cs,z))∧nj n agg o cs=some a∧ ∀(rs:Option RS) (f:Fr) (t:St),f s=fr s→(∃r z,t.cbox id=some (r,z)∧nj n agg o r=some a)→aS P x rs f t=some (az f d a,t,True)∧da x f t=some (d,a,some id)):=by
 unfold da at h;split at h
 ·rename_i d' s
  split at h
  ·rename_i v j
   split at h
   ·rename_i p
    cases h;refine ⟨p,rfl,rfl,.inl ⟨rfl,s,List.mem_append_left _ (List.mem_singleton.2 rfl),⟨_,j,p⟩,fun rs f t i=> ?_⟩⟩;rw [j] at i;refine ⟨?_,?_⟩
    ·show (match (Opd.s s).ev f with|some a=>some (az f d a,t,True)|none=>none)=_
     simp only [Opd.ev,i]
    ·simp only [da,i,p]
   ·cases h
  ·cases h
 ·rename_i d' k s
  split at h
  ·rename_i id o j
   cases h;refine ⟨rfl,rfl,rfl,.inl ⟨rfl,s,List.mem_append_left _ (List.mem_singleton.2 rfl),⟨_,j,rfl⟩,fun rs f t i=> ?_⟩⟩;rw [j] at i;refine ⟨?_,?_⟩
   ·show ah P (.off d k (.s s)) rs f t=_
    simp only [ah,Opd.ev,i]
   ·simp only [da,i]
  ·rename_i id o j
   split at h
   ·rename_i hmp p
    cases h;refine ⟨p,rfl,rfl,.inl ⟨rfl,s,List.mem_append_left _ (List.mem_singleton.2 rfl),⟨_,j,p⟩,fun rs f t i=> ?_⟩⟩;rw [j] at i;refine ⟨?_,?_⟩
    ·show ah P (.off d k (.s s)) rs f t=_
     simp only [ah,Opd.ev,i,hmp]
    ·simp only [da,i,hmp,p]
   ·cases h
  ·cases h
 ·rename_i d' n esz z m s
  split at h
  ·rename_i y j
   split at h
   ·rename_i cs p J
    split at h
    ·rename_i l hl
     cases h;refine ⟨rfl,rfl,rfl,.inl ⟨rfl,s,List.mem_append_left _ (List.mem_append_left _ (List.mem_singleton.2 rfl)),⟨_,j,p⟩,fun rs f t i=> ?_⟩⟩
     have C:lu f z [(0,m,.s s)]=some cs:=by
      rw [←J];simp only [lu,Opd.ev,i]
     rw [j] at i;refine ⟨?_,?_⟩
     ·show ah P (.bsl d n esz z [(0,m,.s s)]) rs f t=_
      simp only [ah,C,hl]
     ·simp only [da,i,p,C,hl]
    ·cases h
   ·cases h
  ·cases h
 ·rename_i d' n agg s
  split at h
  ·rename_i id o j
   split at h
   ·rename_i cs z hb R
    split at h
    ·rename_i v hr
     cases h;refine ⟨DX hr,rfl,rfl,.inr ⟨id,s,cs,n,agg,o,rfl,Nat.le_of_ble_eq_true hb,List.mem_append_left _ (List.mem_singleton.2 rfl),⟨_,j,rfl⟩,rfl,⟨z,R⟩,hr,fun rs f t i ⟨r,T,I,g⟩=> ?_⟩⟩;rw [j] at i;refine ⟨?_,?_⟩
     ·show ah P (.ld d n agg (.s s)) rs f t=_
      simp only [ah,Opd.ev,i,I];unfold nj at g;cases hd:gb o r with
      |none=>rw [hd] at g;cases g
      |some c=>
       rw [hd] at g;simp only at g⊢;cases agg with
       |true=>
        simp only at g⊢;cases ht:eY n c with
        |none=>rw [ht] at g;cases g
        |some c2=>
         rw [ht] at g;simp only at g⊢;split at g
         ·cases g;rfl
         ·cases g
       |false=>
        simp only at g⊢;cases ht:no 0 c with
        |none=>rw [ht] at g;cases g
        |some c2=>
         rw [ht] at g;simp only at g⊢;split at g
         ·cases g;rfl
         ·cases g
     ·simp only [da,i,hb,I,g]
    ·cases h
   ·cases h
  ·cases h
 ·cases h
theorem kp (h:da x fr st=some (d,a,b)) (rs:Option RS):aS P x rs fr st=some (az fr d a,st,True):=by
 obtain ⟨_,_,_,⟨_,s,_,_,k⟩|⟨id,s,cs,n,agg,o,_,_,_,_,_,⟨z,g⟩,hr,k⟩⟩:=fk (P:=P) h
 ·exact (k rs fr st rfl).1
 ·exact (k rs fr st rfl ⟨cs,z,g,hr⟩).1
theorem Ce {y:GI} (h:da x fr st=some (d,a,b)) (p:ku x y=true) {R:Option RS} {f:Fr} {s' :St} {q:Prop} (hy:aS P y R fr st=some (f,s',q)):da x f s' =some (d,a,b):=by
 unfold ku at p;rw [gA9] at p;obtain ⟨T,g⟩:=p;obtain ⟨a1,a2,a3⟩:=ir T;obtain ⟨v,e⟩:=oy hy (e9 g).2
 have r: ∀s∈x.looks,f s=fr s:=fun s C=>by
  subst e;unfold r9;cases U:y.i.dst with
  |some e' =>exact bO _ _ fun I=>a3 e' U (I▸C)
  |none=>rfl
 obtain ⟨_,_,_,⟨hb,s,C,_,k⟩|⟨id,s,cs,n,agg,o,hb,hid,C,_,J,⟨z,hc⟩,hr,k⟩⟩:=fk (P:=P) h
 ·subst hb
  exact (k none f s' (r s C)).2
 ·subst hb
  refine (k none f s' (r s C) ⟨cs,z,?_,hr⟩).2;obtain ⟨j,hmp⟩:=aA hc;refine ee hmp ?_;rw [J] at g;cases i:y.i.cl with
  |pure=>rw [(yL i hy).1];exact j
  |ld=>rw [(xB i hy).1];exact j
  |app=>rw [(nA i hy).1];exact j
  |new=>
   obtain ⟨d2,y2,_,k1,k2,_⟩:=nC i hy;subst k2;show upd st.box d2 (some y2) id=_;rw [bO _ _ (fun I=>by rw [I,k1] at j;cases j)];exact j
  |st=>rw [i] at g;cases g
  |frz=>rw [i] at g;cases g
  |strict=>rw [i] at g;cases g
  |hard=>rw [i] at g;cases g
end
def F6 (b:Option Nat) (ids:List Nat):Bool:=match b with
 |none=>true
 |some id=> !bW id ids
def okC (g:Option RS) (i:Option XSpec) (b:Option Nat):Bool:=match i with
 |some sp=>F6 b sp.ids
 |none=>match g with
  |some (.s ids _ _)=>F6 b ids
  |some (.v _)=>true
  |_=>false
def tx (x:GI):Bool:=match x with
 |⟨none,.calls _ (.k (.fn _ [])) _⟩=>true
 |_=>false
def Ad (x:GI):Bool:=match x with
 |⟨none,.appr _ _ _ _ _⟩=>true
 |_=>false
def rh (i g:GI) (p:Option RS) (j:Option XSpec) (b:Option Nat):Bool:=(tx g&&(jE i g&&okC p j b))||(Ad g&&(jE i g&&(j.isSome&&b.isNone)))
section
variable {P:Program} {x:GI} {fr:Fr} {st:St} {d:Nat} {a:AV} {b:Option Nat}
theorem F7 {N:List Nat} (j: ∀i∈N,1000000≤i∧i<2000000) (fr:Fr) (d:Nat) {a:AV} (p:a.stab=true):dN N (az fr d a)=az (dN N fr) d a:=by
 cases N with
 |nil=>rfl
 |cons n N=>
  funext s;show (match upd fr d (some a) s with|some a=>some (yE (n::N) a)|none=>none)=upd (dN (n::N) fr) d (some a) s;rw [aB,aB];by_cases g:s=d
  ·rw [if_pos g,if_pos g]
   show some (yE (n::N) a)=_;rw [yq j p]
  ·rw [if_neg g,if_neg g]
   rfl
theorem Ip (N:List Nat) (g:Nat→Option (List AV×Bool)) {k:Nat} {cs:List AV} {z:Bool} (h:g k=some (cs,z)):gc N g k=some (cs.map (db N),z)∨gc N g k=some (cs,z):=by
 cases N with
 |nil=>exact .inr h
 |cons n N=>
  left;show (match g k with|some (ds,fz)=>some (ds.map (db (n::N)),fz)|none=>none)=_;rw [h]
def vZ (fr:Fr) (d:Option Nat) (r:AV):Fr:=match d with
 |some d=>az fr d r
 |none=>fr
theorem og (P:Program) (h:da x fr st=some (d,a,b)) {ids:List Nat} {S' :List (Nat×List AV)} {r:AV} {C:Option Nat} (hlk: ∀e,C=some e→e∉x.looks) (hdj: ∀e,C=some e→e≠d) (hb:F6 b ids=true)
  (hN: ∀i∈ap ids S',1000000≤i∧i<2000000):
  vZ (dN (ap ids S') (az fr d a)) C r=az (vZ (dN (ap ids S') fr) C r) d a∧
   da x (vZ (dN (ap ids S') fr) C r) ⟨ig (gc (ap ids S') st.box) ids S',st.row⟩=some (d,a,b):=by
 obtain ⟨hst,hdx,hgx,I⟩:=fk (P:=P) h;refine ⟨?_,?_⟩
 ·rw [F7 hN fr d hst]
  cases C with
  |none=>rfl
  |some e=>exact (ua _ _ _ (hdj e rfl)).symm
 ·have key: ∀J:Fr,J=(vZ (dN (ap ids S') fr) C r)→da x J ⟨ig (gc (ap ids S') st.box) ids S',st.row⟩=some (d,a,b):= ?_
  ·exact key _ rfl
  intro J hf'
  have hfs: ∀s∈x.looks,J s=dN (ap ids S') fr s:=fun s R=>by
   subst hf';cases C with
   |none=>rfl
   |some e=>exact bO _ _ fun hh=>hlk e rfl (hh▸R)
  have g: ∀s∈x.looks,∀v,fr s=some v→v.stab=true→J s=fr s:=fun s R v U j=>by
   rw [hfs s R,ou,U];show some (yE _ v)=_;rw [yq hN j]
  rcases I with ⟨T,s,R,⟨y,U,j⟩,k⟩|⟨id,s,cs,n,agg,o,T,hid,R,⟨y,U,j⟩,hcl,⟨z,hc⟩,hr,k⟩
  ·subst T
   exact (k none J _ (g s R y U j)).2
  ·subst T
   refine (k none J _ (g s R y U j) ?_).2;obtain ⟨hbx,hmp⟩:=aA hc
   have hnid:id∉ids:=fun hm=>by
    have:bW id ids=false:=by simpa [F6] using hb
    rw [iY.2 hm] at this;cases this
   have hg:pD S' id=none:=by
    cases hg:pD S' id with
    |none=>rfl
    |some c=>
     have hm:=ot hg;have:=hN id (eL.2 ⟨List.mem_map.2 ⟨_,hm,rfl⟩,hnid⟩);omega
   have hmf:bW id ids=false:=by simpa [F6] using hb
   have hbox: ∃p,ig (gc (ap ids S') st.box) ids S' id=some (p,z)∧nj n agg o p=some a:=by
    unfold ig;rw [hg,hmf];rcases Ip (ap ids S') st.box hbx with h1|h1
    ·exact ⟨_,h1,F5 hN hr⟩
    ·exact ⟨_,h1,hr⟩
   obtain ⟨p,h1,h2⟩:=hbox;exact ⟨p,z,ee hmp h1,h2⟩
theorem EL {ids:List Nat} {S' :List (Nat×List AV)} {r:AV} {g:Nat→Option (List AV×Bool)} (h:(okS ids S' r&&aX g (ap ids S'))=true): ∀i∈ap ids S',1000000≤i∧i<2000000:=fun i hi=>by
 rw [gA9] at h;exact (ns h.2 i hi).2
theorem DY {xj:GI} {rj:Option RS} {Xj:Option XSpec} (h:da x fr st=some (d,a,b)) (R:rh x xj rj Xj b=true) {T:Fr→St→Prop} (g:iD P Xj xj rj (az fr d a) st T):
  iD P Xj xj rj fr st fun f s=>da x f s=some (d,a,b)∧T (az f d a) s:=by
 unfold rh at R;rw [Bool.or_eq_true] at R;rcases R with R|R
 rotate_left
 ·simp only [gA9] at R
  obtain ⟨U,hap,hXs,hbn⟩:=R;obtain ⟨a1,a2,a3⟩:=ir hap;obtain ⟨hst,hdx,_,hcase⟩:=fk (P:=P) h;unfold Ad at U;split at U
  ·rename_i j e bb y z
   cases Xj with
   |none=>cases hXs
   |some sp=>
    have g:rX P sp ⟨none,.appr j e bb y z⟩ rj (az fr d a) st T:=g;show rX P sp ⟨none,.appr j e bb y z⟩ rj fr st fun f s=>da x f s=some (d,a,b)∧T (az f d a) s
    have hfc:=Ar (P:=P) ⟨none,.appr j e bb y z⟩ rj fr st (d:=d) (some a) (a1 d hdx) (fun e=>a2 d hdx e) (by intro e;cases e);have hdj:j≠d:=fun e=>a2 d hdx (by rw [←e];rfl)
    unfold rX at g⊢;cases hg:aS P ⟨none,.appr j e bb y z⟩ rj fr st with
    |none=>
     rw [hg] at hfc;rw [show az fr d a=upd fr d (some a) from rfl,hfc] at g;exact g.elim
    |some q=>
     obtain ⟨f0,s0,p⟩:=q;rw [hg] at hfc;rw [show az fr d a=upd fr d (some a) from rfl,hfc] at g
     have hids: ∃id,sp.ids= [id]:=by
      rcases hx:sp.ids with _|⟨id,_|⟨id2,l⟩⟩
      ·rw [hx] at g;exact g.elim
      ·exact ⟨id,rfl⟩
      ·rw [hx] at g;exact g.elim
     obtain ⟨id,hids⟩:=hids;rw [hids] at g⊢;obtain ⟨k1,k2,k3,k4,k5,k6⟩:=g;refine ⟨k1,k2,k3,k4,k5,?_⟩;have e1:upd f0 d (some a) j=f0 j:=bO _ _ hdj;simp only at k6;rw [e1] at k6;cases hfd:f0 j with
     |none=>rw [hfd] at k6;exact k6.elim
     |some w=>
      rw [hfd] at k6;cases w with
      |frs k esz rows=>
       obtain ⟨rfl,k6⟩:=k6;refine ⟨rfl,fun cap m C h2=> ?_⟩;have hop:=k6 cap m C h2
       have hcomm:pR j id cap (upd f0 d (some a))=az (pR j id cap f0) d a:=by
        funext s;unfold az;by_cases hsd:s=d
        ·subst hsd
         unfold pR;rw [ci,ci];show some (GK j id cap a)=_;rw [yt ⟨k2,k3⟩ hst]
        ·rw [bO _ _ hsd]
         unfold pR;rw [bO _ _ hsd]
       rw [hcomm] at hop;refine ⟨?_,hop⟩
       have hlook: ∀s∈x.looks,∀v,fr s=some v→v.stab=true→pR j id cap f0 s=fr s:=fun s g v hv hvs=>by
        obtain ⟨u,hu⟩:=oy (P:=P) hg (by intro e;cases e);have hu:f0=upd fr j u:=hu;unfold pR;have hne:s≠j:=fun hh=>a3 j rfl (by rw [←hh];exact g)
        rw [hu,bO _ _ hne,hv];show some (GK j id cap v)=_;rw [yt ⟨k2,k3⟩ hvs]
       rcases hcase with ⟨hb0,s,g,⟨v,hv,hvs⟩,k⟩|⟨id2,s,cs,n,agg,o,hb0,_⟩
       ·subst hb0
        exact (k none _ _ (hlook s g v hv hvs)).2
       ·subst hb0
        cases hbn
      |_=>exact k6.elim
  ·cases U
 simp only [gA9] at R;obtain ⟨U,hap,hoc⟩:=R;obtain ⟨a1,a2,a3⟩:=ir hap;obtain ⟨_,hdx,_,_⟩:=fk (P:=P) h;unfold tx at U;split at U
 ·rename_i j f xs
  have hnl:d∉xs.flatMap Opd.slots:=fun hm=>a1 d hdx (List.mem_append_left _ (List.mem_append_right _ hm))
  have hev:evs (az fr d a) xs=evs fr xs:=ow _ hnl;have hlk: ∀e,j=some e→e∉x.looks:=fun e he=>a3 e he
  have hdj: ∀e,j=some e→e≠d:=fun e he hh=>a2 d hdx (by rw [←hh];exact he)
  cases Xj with
  |some sp=>
   have g:callX P sp j f xs (az fr d a) st T:=g;show callX P sp j f xs fr st fun f s=>da x f s=some (d,a,b)∧T (az f d a) s
   unfold callX at g⊢;rw [hev] at g;cases I:evs fr xs with
   |none=>rw [I] at g;exact g.elim
   |some av=>
    rw [I] at g;simp only at g⊢;cases J:eZ av with
    |none=>rw [J] at g;exact g.elim
    |some bs=>
     rw [J] at g;cases hSS:iT st.box sp.ids with
     |none=>rw [hSS] at g;exact g.elim
     |some S0=>
      rw [hSS] at g;obtain ⟨C,h2,h3⟩:=g;refine ⟨C,h2,fun i hi=> ?_⟩;obtain ⟨k1,k2⟩:=og P (r:=sp.r i) h hlk hdj (hoc:F6 b sp.ids=true) (EL (h2 i hi));refine ⟨k2,?_⟩;have h4:T (vZ (dN (ap sp.ids (sp.S' i)) (az fr d a)) j (sp.r i)) _:=h3 i hi;rw [k1] at h4;exact h4
  |none=>
   obtain ⟨f2,s2,q,h0,hq,hT⟩:=eS g;have C:ah P (.calls j (.k (.fn f [])) xs) rj (az fr d a) st=some (f2,s2,q):=h0;clear g h0;unfold okC at hoc;simp only at hoc;split at hoc
   ·rename_i ids S' r
    simp only [ah,Opd.ev,hev] at C;cases I:evs fr xs with
    |none=>rw [I] at C;cases C
    |some av=>
     rw [I] at C;simp only at C;cases J:eZ av with
     |none=>rw [J] at C;cases C
     |some bs=>
      rw [J] at C;cases hSS:iT st.box ids with
      |none=>rw [hSS] at C;cases C
      |some S0=>
       rw [hSS] at C;simp only [gB9,Prod.mk.injEq] at C;obtain ⟨e1,e2,e3⟩:=C;subst e2 e3;obtain ⟨k1,k2⟩:=og P (r:=r) h hlk hdj hoc (EL hq.2);refine eD (f:=(vZ (dN (ap ids S') fr) j r)) (s:=⟨ig (gc (ap ids S') st.box) ids S',st.row⟩) ?_ hq ⟨k2,?_⟩
       ·show ah P (.calls j (.k (.fn f [])) xs) (some (.s ids S' r)) fr st=_
        simp only [ah,Opd.ev,I,J,hSS];rfl
       ·have e1:vZ (dN (ap ids S') (az fr d a)) j r=f2:=e1
        rw [←k1,e1];exact hT
   ·rename_i r
    simp only [ah,Opd.ev,hev] at C;cases I:evs fr xs with
    |none=>rw [I] at C;cases C
    |some av=>
     rw [I] at C;simp only at C;cases J:dM av with
     |none=>rw [J] at C;cases C
     |some bs=>
      rw [J] at C;simp only [gB9,Prod.mk.injEq] at C;obtain ⟨e1,e2,e3⟩:=C;subst e2 e3;have k1:=og P (ids:= []) (S' := []) (r:=r) h hlk hdj (by cases b<;>rfl) (fun i hi=>by cases hi);refine eD (f:=vZ fr j r) (s:=st) ?_ hq ⟨?_,?_⟩
      ·show ah P (.calls j (.k (.fn f [])) xs) (some (.v r)) fr st=_
       simp only [ah,Opd.ev,I,J];rfl
      ·exact k1.2
      ·have k2:vZ (az fr d a) j r=az (vZ fr j r) d a:=k1.1
       have e1:vZ (az fr d a) j r=f2:=e1;rw [←k2,e1];exact hT
   ·cases hoc
 ·cases U
end
theorem DZ {P:Program} {g:Array Oper} {S:List (GI×Option RS)} {X:Nat→Option XSpec} {R:Fr→St→Prop} {i:Nat} {C:GI} {U:Option RS} {d:Nat} {a:AV} {b:Option Nat} (hi:S[i]? =some (C,U)) (hXi:X i=none):
  ∀(fuel:Nat) (listed:Array Bool) (fr:Fr) (st:St),ClosedL g listed→(∀j xj rj oj,S[j]? =some (xj,rj)→g[j]? =some oj→j≠i→listed.getD j true=false→nD g g.size j i=false→(X j=none∧ku C xj=true)∨rh C xj rj (X j) b=true)→
   i∈Region.ready .any g listed→da C fr st=some (d,a,b)→Ac P g S X R fuel (listed.setIfInBounds i true) (az fr d a) st→Ac P g S X R (fuel+1) listed fr st:=by
 intro fuel
 induction fuel with
 |zero=>
  intro listed fr st _ _ hr he H;refine ⟨fun h=>(by rw [h] at hr;cases hr),fun j hj=> ?_⟩;by_cases p:j=i
  ·subst p
   refine ⟨C,U,hi,?_⟩;rw [hXi];exact eD (kp he U) trivial H
  ·have:=ready_mono hj p
   rw [H.1] at this;cases this
 |succ fuel ih=>
  intro listed fr st hcl r hr he H;refine ⟨fun h=>(by rw [h] at hr;cases hr),fun j hj=> ?_⟩;by_cases p:j=i
  ·subst p
   refine ⟨C,U,hi,?_⟩;rw [hXi];exact eD (kp he U) trivial H
  ·obtain ⟨xj,rj,hSj,hst⟩:=H.2 j (ready_mono hj p)
   obtain ⟨J,oj,hoj,hall⟩:=mem_ready.1 hj;have hnot:=gg hcl (mem_ready.1 hr).1 g.size j oj hoj hall
   have I: ∀k xk rk ok,S[k]? =some (xk,rk)→g[k]? =some ok→k≠i→(listed.setIfInBounds j true).getD k true=false→nD g g.size k i=false→(X k=none∧ku C xk=true)∨rh C xk rk (X k) b=true:=fun k xk rk ok hSk hok hki hun hno=>by
    refine r k xk rk ok hSk hok hki ?_ hno;by_cases hjk:j=k
    ·subst hjk;exact J
    ·rw [getD_set_ne true hjk] at hun;exact hun
   have hrd:i∈Region.ready .any g (listed.setIfInBounds j true):=ready_mono hr (Ne.symm p)
   have go: ∀f s,da C f s=some (d,a,b)→Ac P g S X R fuel ((listed.setIfInBounds i true).setIfInBounds j true) (az f d a) s→Ac P g S X R (fuel+1) (listed.setIfInBounds j true) f s:=fun f s h1 h2=>by
    refine ih (listed.setIfInBounds j true) f s (hcl.set hj) I hrd h1 ?_;rw [Array.setIfInBounds_comm _ _ p];exact h2
   refine ⟨xj,rj,hSj,?_⟩;rcases r j xj rj oj hSj hoj p J hnot with ⟨hXj,T⟩|hok
   ·rw [hXj] at hst⊢
    obtain ⟨f2,s2,q,hsj,hq,h3⟩:=eS hst;obtain ⟨f1',s1',k1,k2⟩:=yM T (kp he U) hsj;have he' :=Ce he T k1;rw [kp he' U] at k2;cases k2;exact eD k1 hq (go _ _ he' h3)
   ·exact mv (fun f s h=>go f s h.1 h.2) (DY he hok hst)
def rsT (g:Option RS) (i:Option XSpec):Bool:=match i with
 |some _=>true
 |none=>match g with
  |some (.s _ _ _)=>true
  |some (.v _)=>true
  |_=>false
abbrev TS:=List (Fl×List ND)
abbrev rowsT2 (ts:TS):List (List AV):=aH (ts.map Prod.fst)
def bQ (ts:TS):List (List AV):=ts.map fun t=> [.lst .any 16 (aM t.2)]
abbrev CI:=(Nat×Nat)×(Nat×Nat)×DF
abbrev chKc (g j m:Nat) (nm ver:ByteArray) (v:V) (ts:TS) (i:CI):List AV:= [.str nm,.str ver,.int .i64 v.kind,.bool v.b,.int .i64 v.n,.str v.s,.lst .any 6 (aF v.l),.lst .any 7 (ak v.m),.sli g 2 ts.length i.1.1,.sli j 1 ts.length i.2.1.1,.np m 0]
abbrev chK (c g j m:Nat) (nm ver:ByteArray) (v:V) (ts:TS) (i:CI):List (Nat×List AV):= [(c,chKc g j m nm ver v ts i),(g,rowB (rowsT2 ts) i.1.2),(j,rowB (bQ ts) i.2.1.2),(m,[mcA (aRz i.2.2)])]
def xn (ts:TS) (d:DF) (i:CI):Prop:=(ts.length≤i.1.1∧(rowB (rowsT2 ts) i.1.2).length=i.1.1*2)∧(ts.length≤i.2.1.1∧(rowB (bQ ts) i.2.1.2).length=i.2.1.1*1)∧i.2.2.Perm d
theorem kq (ts:TS):(rowsT2 ts).length=ts.length:=by rw [aP,List.length_map]
theorem kr (ts:TS):(bQ ts).length=ts.length:=List.length_map _
theorem Cf (ts:TS) (f:Fl) (l:List ND):rowsT2 (ts++ [(f,l)])=rowsT2 ts++ [[.str f.1,.str f.2]]:=by
 show aH ((ts++ [(f,l)]).map Prod.fst)=_;rw [List.map_append];exact DC _ _
theorem Cg (ts:TS) (f:Fl) (l:List ND):bQ (ts++ [(f,l)])=bQ ts++ [[.lst .any 16 (aM l)]]:=by
 unfold bQ;rw [List.map_append];rfl
theorem al (ts:TS):Cln (rowsT2 ts):=fun r hr c g=>by
 obtain ⟨p,_,rfl⟩:=List.mem_map.1 hr;rcases gB2 g with rfl|g
 ·rfl
 ·rw [gB1 g];rfl
theorem am (ts:TS):Cln (bQ ts):=fun r hr c g=>by
 obtain ⟨p,_,rfl⟩:=List.mem_map.1 hr;rw [gB1 g];rfl
theorem yw (ts:TS):RowsOk 2 (rowsT2 ts):=vD _
theorem yx (ts:TS):RowsOk 1 (bQ ts):=⟨by omega,fun c g=>by
 obtain ⟨o,_,rfl⟩:=List.mem_map.1 g;exact ⟨rfl,rfl⟩⟩
theorem pv (nm ver:ByteArray) (v:V) (ts:TS) (i:CI) (j:List AV) (g:dZ (chK 2000000 2000001 2000002 2900001 nm ver v [] ((0,0),(0,0),i.2.2)) j=true):dZ (chK 2000000 2000001 2000002 2900001 nm ver v ts i) j=true:=by
 unfold dZ at g⊢;rw [gA9] at g⊢;refine ⟨?_,g.2⟩;refine List.all_eq_true.2 fun y hy=> ?_
 rcases gB2 hy with rfl|hy
 ·show (Nat.ble 2000000 2000000&&true)=true
  rfl
 rcases gB2 hy with rfl|hy
 ·show (Nat.ble 2000000 2000001&&(rowB (rowsT2 ts) i.1.2).all AV.okIn)=true
  rw [(al ts).okIn];rfl
 rcases gB2 hy with rfl|hy
 ·show (Nat.ble 2000000 2000002&&(rowB (bQ ts) i.2.1.2).all AV.okIn)=true
  rw [(am ts).okIn];rfl
 rw [gB1 hy];show (Nat.ble 2000000 2900001&&true)=true;rfl
theorem J0 (d id cap:Nat) {a:AV} (h:a.cln=true):fF d id cap a=a:=by cases a<;>first|rfl|cases h
theorem Cln.opn {rows:List (List AV)} (h:Cln rows) (d id cap m:Nat):(rowB rows m).map (fF d id cap)=rowB rows m:=h.map (fun _=>J0 d id cap) m
abbrev xA (id:Nat):XSpec:=⟨Unit,fun _=>True,fun _=> [],fun _=> .top,[id]⟩
set_option maxHeartbeats 4000000 in
theorem Iq (nm ver s:ByteArray) (v0:V) (ts:TS) (i:CI):MS Tryz.prog 40 (chK 2000000 2000001 2000002 2900001 nm ver v0 ts i) [.np 2000000 0,.str s] (chK 2000000 2000001 2000002 2900001 (bT nm ver s).1 (bT nm ver s).2.1 v0 ts i) (.int .i64 (bT nm ver s).2.2):=by
 generalize g:bT nm ver s=R;unfold bT at g;have T:=pd s;obtain ⟨hg,p⟩:=vE s;generalize bL s=P at*;obtain ⟨v,e⟩:=P;dsimp only at g T hg p;have r:=cK v kNm hg.ord (by omega);have C:=cK v sW hg.ord (by omega);have U:=pi hg p kNm;have z2:=pi hg p sW;have hB:=C8 (mvK kNm v).s (by omega);unfold zM at g;unfold mvK at g U z2 hB;generalize (bf kNm v.m).getD V.null=x at*;generalize (bf sW v.m).getD V.null=y at*;refine MS.enter Tryz.func40 eI eJ (by rfl) (pv _ _ _ ts i _ (by rfl)) fun E hE=> ?_
 show AK _ _ _ [.c bS] _ _;rw [bS];refine kW ?_;refine kQ [.v (.tup [(vA (v)),.int .i64 e])] ?_;refine kW ?_;refine kC (fun hb=> ?_) fun hb=> ?_
 ·have I:e≠0:=by simpa using hb
  rw [if_pos I] at g;subst g;refine kW ?_;exact aR ⟨⟨_,rfl,rfl⟩,⟨_,rfl,rfl⟩,⟨_,rfl,(al ts).told _⟩,⟨_,rfl,(am ts).told _⟩,⟨_,rfl,rfl⟩,trivial⟩
 have I: ¬e≠0:=by simpa using hb
 rw [if_neg I] at g;clear hb;refine kW ?_;refine kP [.v (.tup [(vA (x)),.bool (bf kNm v.m).isSome])] ?_ ?_
 ·((repeat' apply aI)<;>first|exact kD|(intro J;refine ⟨?_,kG⟩;(repeat' apply aI)<;>first|exact kD|skip)|skip)
  all_goals exact r
 refine kW ?_;refine kP [.v (.tup [(vA (y)),.bool (bf sW v.m).isSome])] ?_ ?_
 ·((repeat' apply aI)<;>first|exact kD|(intro J;refine ⟨?_,kG⟩;(repeat' apply aI)<;>first|exact kD|skip)|skip)
  all_goals exact C
 refine kW ?_;refine kQ [.v (.bool (fD x.s))] ?_
 have e3:IntKind.i64.wrap ((x.s.size:Int)+(y.s.size:Int))=((x.s.size+y.s.size:Nat):Int):=by
  rw [aG (by omega) (by omega)];omega
 have e4:decide (((x.s.size+y.s.size:Nat):Int)>256)=decide (256<x.s.size+y.s.size):=by
  rw [Bool.eq_iff_iff,decide_eq_true_iff,decide_eq_true_iff];omega
 rw [e3,e4];refine kC (fun hb=> ?_) fun hb=> ?_
 ·have j:(!decide (x.kind=3)|| !decide (y.kind=3)|| !fD x.s||decide (y.s=⟨#[]⟩)||decide (256<x.s.size+y.s.size))=true:=by
   rw [←hb]
  rw [if_pos j] at g;subst g;refine kW ?_;exact aR ⟨⟨_,rfl,rfl⟩,⟨_,rfl,rfl⟩,⟨_,rfl,(al ts).told _⟩,⟨_,rfl,(am ts).told _⟩,⟨_,rfl,rfl⟩,trivial⟩
 have j:(!decide (x.kind=3)|| !decide (y.kind=3)|| !fD x.s||decide (y.s=⟨#[]⟩)||decide (256<x.s.size+y.s.size))=false:=by
  rw [←hb]
 rw [if_neg (by rw [j];simp)] at g;subst g;clear hb;refine kW ?_;refine AK.weak (wN (L:= [(0,.np 2000000 0),(7,.ptr 7 0),(9,.ptr 9 0)]) (BL:= [(7,(vC (x)),false),(9,(vC (y)),false),(2000000,chKc 2000001 2000002 2900001 nm ver v0 ts i,false),(2000001,rowB (rowsT2 ts) i.1.2,false),(2000002,rowB (bQ ts) i.2.1.2,false),(2900001,[mcA (aRz i.2.2)],false)]) ⟨kI,kI,kI,trivial⟩ ⟨kJ,kJ,kJ,kJ,kJ,kJ,trivial⟩ rfl rfl ⟨rfl,(al ts).noFrs _,(am ts).noFrs _,rfl,trivial⟩) ?_;refine AK.regaE fw0 [] (au []) ⟨ag [(2000000,chKc 2000001 2000002 2900001 x.s y.s v0 ts i,false),(2000001,rowB (rowsT2 ts) i.1.2,false),(2000002,rowB (bQ ts) i.2.1.2,false),(2900001,[mcA (aRz i.2.2)],false)],fun _=>0⟩ ?_ ?_
 ·(repeat' (first|exact trivial|apply aI))
  all_goals exact wN (L:= []) trivial ⟨kJ,kJ,kJ,kJ,trivial⟩ rfl rfl ⟨rfl,(al ts).noFrs _,(am ts).noFrs _,rfl,trivial⟩
 refine kW ?_;exact aR ⟨⟨_,rfl,rfl⟩,⟨_,rfl,rfl⟩,⟨_,rfl,(al ts).told _⟩,⟨_,rfl,(am ts).told _⟩,⟨_,rfl,rfl⟩,trivial⟩
set_option maxHeartbeats 4000000 in
theorem Kv (nm ver s:ByteArray) (v0:V) (ts:TS) (i:CI):MS Tryz.prog 41 (chK 2000000 2000001 2000002 2900001 nm ver v0 ts i) [.np 2000000 0,.str s] (chK 2000000 2000001 2000002 2900001 nm ver (ik v0 s).1 ts i) (.int .i64 (ik v0 s).2):=by
 generalize g:ik v0 s=R;unfold ik at g;have C:=pd s;generalize bL s=P at*;obtain ⟨v,e⟩:=P;dsimp only at g C;refine MS.enter Tryz.func41 fh fi (by rfl) (pv _ _ _ ts i _ (by rfl)) fun E I=> ?_
 show AK _ _ _ [.c b6] _ _;rw [b6];refine kW ?_;refine kQ [.v (.tup [(vA (v)),.int .i64 e])] ?_;refine kW ?_;refine kC (fun hb=> ?_) fun hb=> ?_
 ·have j:e≠0:=by simpa using hb
  rw [if_pos j] at g;subst g;refine kW ?_;exact aR ⟨⟨_,rfl,rfl⟩,⟨_,rfl,rfl⟩,⟨_,rfl,(al ts).told _⟩,⟨_,rfl,(am ts).told _⟩,⟨_,rfl,rfl⟩,trivial⟩
 have j: ¬e≠0:=by simpa using hb
 rw [if_neg j] at g;clear hb;refine kW ?_;refine kC (fun hb=> ?_) fun hb=> ?_
 ·have p:v.kind=0:=by simpa using hb
  rw [if_pos p] at g;subst g;refine kW ?_;exact aR ⟨⟨_,rfl,rfl⟩,⟨_,rfl,rfl⟩,⟨_,rfl,(al ts).told _⟩,⟨_,rfl,(am ts).told _⟩,⟨_,rfl,rfl⟩,trivial⟩
 have p: ¬v.kind=0:=by simpa using hb
 rw [if_neg p] at g;clear hb;refine kW ?_;refine kC (fun hb=> ?_) fun hb=> ?_
 ·have r:v.kind≠5:=by simpa using hb
  rw [if_pos r] at g;subst g;refine kW ?_;exact aR ⟨⟨_,rfl,rfl⟩,⟨_,rfl,rfl⟩,⟨_,rfl,(al ts).told _⟩,⟨_,rfl,(am ts).told _⟩,⟨_,rfl,rfl⟩,trivial⟩
 have r: ¬v.kind≠5:=by simpa using hb
 rw [if_neg r] at g;subst g;clear hb;refine kW ?_;exact aR ⟨⟨_,rfl,rfl⟩,⟨_,rfl,rfl⟩,⟨_,rfl,(al ts).told _⟩,⟨_,rfl,(am ts).told _⟩,⟨_,rfl,rfl⟩,trivial⟩
end
section
set_option maxRecDepth 100000
def aJz:ACode:=
 .seq (gQ [gP 3 1,gJ 4 0]) (.seq (gQ [gF 9 1 3,gL 10 9,gC 11 25 [.s 10],gM 8 11,gX 12 0 8,gX 13 1 8,gM 5 12,gM 6 13]) (.seq (.seq (gQ [gM 14 6,gU 15 .neq 14 0]) (.cond (.s 15) (.seq (gQ [gM 16 6,gM 4 16]) .ret) .skip)) (.seq (.regs [gM 18 0,gF 19 0 18,gF 20 10 19,gL 21 20,gM 22 5,⟨gO,.calls (some 23) (.k (.fn 26 [])) [.s 21,.s 22]⟩,gM 17 23,gX 24 0 17,gX 25 1 17,gM 7 24,gM 6 25]) (.seq (.seq (gQ [gM 26 6,gU 27 .neq 26 0]) (.cond (.s 27) (.seq (gQ [gM 28 6,gM 4 28]) .ret) .skip)) (.seq (gQ [gM 29 0,gM 30 7,gF 31 0 29,gF 32 10 31,gT 1 32 30]) (.seq (.rega [gM 33 0,gM 34 0,gM 35 0,gF 36 0 35,gF 37 8 36,gL 38 37,gA 39 2 3,⟨gO,.bsl 40 1 2 [.str ⟨#[]⟩,.str ⟨#[]⟩] [(0,2,.s 39)]⟩,⟨gO,.appr 41 2 32 (.s 38) (.s 40)⟩,gM 42 0,gF 43 0 42,gF 44 9 43,gL 45 44,gM 46 5,⟨gO,.bsl 47 1 1 [.lst .nil 16 []] [(0,1,.s 46)]⟩,⟨gO,.appr 48 1 24 (.s 45) (.s 47)⟩,gF 49 0 33,gF 50 8 49,gT 1 50 41,gF 51 0 34,gF 52 9 51,gT 1 52 48] [[],[],[],[2],[3],[4],[],[6],[5,7],[],[9],[10],[11],[],[13],[12,14,8],[0,0,2,3,4,5,6,7,8,12,15],[16,0,2,3,4,5,6,7,8,12,15],[17,8,15,0,2,3,4,5,6,7,8,12,15],[1,0,1,2,3,4,5,6,7,8,9,10,11,12,13,14,15,16,17,18],[19,0,1,2,3,4,5,6,7,8,9,10,11,12,13,14,15,16,17,18],[20,15,18,0,1,2,3,4,5,6,7,8,9,10,11,12,13,14,15,16,17,18]]) (.seq (gQ [gJ 4 0]) .ret)))))))
def ks:AFn:=⟨2,53,aJz,[.tmp 4]⟩
theorem bC:ax Tryz.prog [2000040,2000041,2000043,2000010,2000026,2000083,2000011,4000041,4000048,5000004] Tryz.f43=some ks:=kk
theorem bD:aa Tryz.prog 43=true:=kk
end
end Go.Proofs.YtbgflifmanjpjaaGreatDoor
