/- Part 27. -/
import Derived.Test.YtbgflifmanjpjaaGreatDoorS26
set_option linter.unusedSimpArgs false
set_option linter.unusedVariables false
namespace Go.Proofs.YtbgflifmanjpjaaGreatDoor
open Go.RowKit
def AV.cellK:AV→Bool
 | .agg _| .tup _| .ptr _ _| .when _ _| .pel _ _ _ _ _=>false
 |_=>true
def mpT (c:AV→AV):AV→AV
 | .agg cs=> .agg (cs.map c)
 |a=>c a
def mpA (c:AV→AV):AV→AV
 | .agg cs=> .agg (cs.map c)
 | .tup l=> .tup (l.map (mpT c))
 |a=>c a
def mpS (c:AV→AV):AV→AV
 | .when b a=> .when b (mpA c a)
 |a=>mpA c a
def mpF (c:AV→AV) (fr:Fr):Fr:=fun s=>match fr s with
 |some a=>some (mpS c a)
 |none=>none
section
variable {P:Program} {E:Env} {G G' :Gho} {fr:Fr} {st:St} {a:Act} {w:World} {c:AV→AV}
theorem RelT.cell {v:Value} {x:AV} (g:x.cellK=true):RelT G v x↔(Rel1 G.σ v x.unown∧TagOk G v x):=by
 cases x<;>first|exact Iff.rfl|exact ⟨fun h=>⟨h,trivial⟩,fun h=>h.1⟩|cases g
theorem RelS0.cell {v:Value} {x:AV} (g:x.cellK=true):RelS0 G v x↔(Rel1 G.σ v x.unown∧TagOk G v x):=by
 cases x<;>first|exact Iff.rfl|cases g
structure CMap (G G' :Gho) (c:AV→AV):Prop where
 cell: ∀v x,Rel1 G.σ v x.unown∧TagOk G v x→Rel1 G'.σ v (c x).unown∧TagOk G' v (c x)
 kind: ∀x:AV,x.cellK=true→(c x).cellK=true
 ptr: ∀id off v,RelS0 G v (.ptr id off)→RelS0 G' v (c (.ptr id off))
 pel: ∀id e i k cs v,RelS0 G v (.pel id e i k cs)→RelS0 G' v (c (.pel id e i k cs))
theorem CMap.cs (h:CMap G G' c) {vs:List Value} {cs:List AV} (hr:RelL G.σ vs (cs.map AV.unown)) (ht:TagsOk G vs cs):RelL G'.σ vs ((cs.map c).map AV.unown)∧TagsOk G' vs (cs.map c):=by
 have key: ∀(j:Nat) v b,vs[j]? =some v→cs[j]? =some b→_:=fun j v b i hb=>h.cell v b ⟨hr.2 j v _ i (by rw [gA8,hb];rfl),ht j v b i hb⟩
 refine ⟨⟨by have:=hr.1;simpa using this,fun j v b i hb=> ?_⟩,fun j v b i hb=> ?_⟩
 ·rw [List.map_map,gA8] at hb
  cases g:cs[j]? with
  |none=>rw [g] at hb;cases hb
  |some x=>rw [g] at hb;cases hb;exact (key j v x i g).1
 ·rw [gA8] at hb
  cases g:cs[j]? with
  |none=>rw [g] at hb;cases hb
  |some x=>rw [g] at hb;cases hb;exact (key j v x i g).2
theorem CMap.tt (h:CMap G G' c) {v:Value} {x:AV} (hr:RelT G v x):RelT G' v (mpT c x):=by
 have one: ∀y:AV,y.cellK=true→RelT G v y→RelT G' v (c y):=fun y g hy=>(RelT.cell (h.kind y g)).2 (h.cell v y ((RelT.cell g).1 hy))
 cases x with
 |agg cs=>
  obtain ⟨vs,e,p,r⟩:=hr;exact ⟨vs,e,(h.cs p r).1,(h.cs p r).2⟩
 |tup l=>cases (hr:Rel1 _ _ _)
 |ptr i o=>cases (hr:Rel1 _ _ _)
 |when b x=>cases (hr:Rel1 _ _ _)
 |pel i e j k cs=>cases (hr:Rel1 _ _ _)
 |_=>exact one _ rfl hr
theorem CMap.aa (h:CMap G G' c) {v:Value} {x:AV} (hr:RelS0 G v x):RelS0 G' v (mpA c x):=by
 have one: ∀y:AV,y.cellK=true→RelS0 G v y→RelS0 G' v (c y):=fun y C hy=>(RelS0.cell (h.kind y C)).2 (h.cell v y ((RelS0.cell C).1 hy))
 cases x with
 |agg cs=>
  obtain ⟨vs,e,p,r⟩:=hr;exact ⟨vs,e,(h.cs p r).1,(h.cs p r).2⟩
 |tup l=>
  obtain ⟨vs,e,p,r⟩:=hr;refine ⟨vs,e,by rw [p,List.length_map],fun j u x I g=> ?_⟩;rw [gA8] at g;cases hl:l[j]? with
  |none=>rw [hl] at g;cases g
  |some y=>rw [hl] at g;cases g;exact h.tt (r j u y I hl)
 |ptr i o=>exact h.ptr _ _ _ hr
 |when b x=>exact hr.elim
 |pel i e j k cs=>exact h.pel _ _ _ _ _ _ hr
 |_=>exact one _ rfl hr
theorem CMap.ss (h:CMap G G' c) {v:Value} {x:AV} (hr:RelS G v x):RelS G' v (mpS c x):=by
 have g: ∀{x:AV},RelS0 G' v x→RelS G' v x:=fun {x} h=>by cases x<;>first|exact h|exact h.elim
 cases x with
 |when b a=>exact ⟨fun i=>h.aa (hr.1 i),hr.2⟩
 |_=>exact g (h.aa (by simp only [RelS] at hr;exact hr))
theorem CMap.ff (h:CMap G G' c) (j: ∀s x,fr s=some x→RelS G (a.tmps.getD s undef) x) (s:Nat) (x:AV) (g:mpF c fr s=some x):RelS G' (a.tmps.getD s undef) x:=by
 unfold mpF at g;cases i:fr s with
 |none=>rw [i] at g;cases g
 |some y=>rw [i] at g;cases g;exact h.ss (j s y i)
theorem CM {k:Nat} (h:mpF c fr k=none):fr k=none:=by
 unfold mpF at h;cases g:fr k with
 |none=>rfl
 |some y=>rw [g] at h;cases h
def zC (row:Nat→Nat):AV→AV
 | .lst (.own k v) e l=>match Nat.beq v (row k) with
  |true=> .lst (.own k 0) e l
  |false=> .lst .any e l
 |a=>a
abbrev zF (row:Nat→Nat) (fr:Fr):Fr:=mpF (zC row) fr
def mpB (c:AV→AV) (b:Nat→Option (List AV×Bool)):Nat→Option (List AV×Bool):=fun k=>match b k with
 |some (ds,fz)=>some (ds.map c,fz)
 |none=>none
abbrev zB (row:Nat→Nat) (b:Nat→Option (List AV×Bool)):Nat→Option (List AV×Bool):=mpB (zC row) b
theorem CN {b:Nat→Option (List AV×Bool)} {id:Nat} {cs:List AV} {fz:Bool} (g:mpB c b id=some (cs,fz)): ∃ds,b id=some (ds,fz)∧cs=ds.map c:=by
 unfold mpB at g;cases hb:b id with
 |none=>rw [hb] at g;cases g
 |some x=>rw [hb] at g;cases g;exact ⟨_,rfl,rfl⟩
theorem wC {b:Nat→Option (List AV×Bool)} {id:Nat} (g:mpB c b id=none):b id=none:=by
 unfold mpB at g;cases hb:b id with
 |none=>rfl
 |some x=>rw [hb] at g;cases g
abbrev zG (G:Gho) (row:Nat→Nat):Gho:={G with ρ:=ρ0 fun k=>G.ρ k (row k)}
theorem JQ (row:Nat→Nat):CMap G (zG G row) (zC row) where
 cell:=fun v x h=>by
  cases x with
  |lst t e l=>cases t with
   |own k n=>
    unfold zC;simp only;split
    ·rename_i hn
     exact ⟨h.1,h.2.imp (fun e=>e) fun ⟨g,cap,j,i⟩=>⟨g,cap,j,by rw [Nat.eq_of_beq_eq_true hn] at i;exact i⟩⟩
    ·exact ⟨h.1,trivial⟩
   |_=>exact h
  |_=>exact h
 kind:=fun x h=>by
  cases x with
  |lst t e l=>cases t with
   |own k n=>unfold zC;simp only;split<;>rfl
   |_=>exact h
  |_=>exact h
 ptr:=fun _ _ _ h=>h
 pel:=fun _ _ _ _ _ _ h=>h
theorem Weak.zero (fr:Fr) (st:St):Weak fr st (zF st.row fr) ⟨zB st.row st.box,fun _=>0⟩:=by
 intro E G a w h
 refine ⟨zG G st.row,
  { defers:=h.defers
    size:=h.size
    slots:=fun s x i=>(JQ st.row).ff h.slots s x i
    hold:=h.hold
    ext:=h.ext
    below:=h.below
    box:=fun id cs fz i=> ?_
    bnone:=fun id i=>h.bnone id (wC i)
    binj:=h.binj
    row:=fun s r i=>h.row s r i
    rinj:=fun s s' r r' p C I=>h.rinj s s' r r' p C I
    rlt:=fun s v x i=>by cases v with
     |zero=>exact gB8 _
     |succ v=>cases i
    phi:=fun k x j=>⟨(h.phi k x j).1,(h.phi k x j).2.1,fun s r i=>(h.phi k x j).2.2 s r i⟩
    phinj:=h.phinj
    pnone:=fun k j=>h.pnone k (CM j)
    small:=h.small
    keep:=h.keep}⟩
 obtain ⟨ds,p,rfl⟩:=CN i;obtain ⟨g,J,P,t,vs,R,T,U,k6⟩:=h.box id ds fz p;obtain ⟨q1,q2⟩:=(JQ (G:=G) st.row).cs T U;exact ⟨g,J,P,t,vs,R,q1,q2,k6⟩
def rnC (i j:Nat):AV→AV
 | .np id off=>match Nat.beq id i with
  |true=> .np j off
  |false=>match Nat.beq id j with
   |true=> .top
   |false=> .np id off
 | .sli id e n c=>match Nat.beq id i with
  |true=> .sli j e n c
  |false=>match Nat.beq id j with
   |true=> .top
   |false=> .sli id e n c
 | .pel _ _ _ _ _=> .top
 |a=>a
abbrev rnG (G:Gho) (i j:Nat):Gho:={G with B:=fun id=>if id=j then G.B i else if id=i then none else G.B id}
theorem Lz {i j:Nat} (hi:1000000≤i) (T:1000000≤j) (U:kd j=kd i):CMap G (rnG G i j) (rnC i j) where
 cell:=fun v x h=>by
  have J: ∀{id:Nat},Nat.beq id i=false→id≠i:=fun h e=>by rw [e,Nat.beq_refl] at h;cases h
  have C: ∀{id:Nat},Nat.beq id j=false→id≠j:=fun h e=>by rw [e,Nat.beq_refl] at h;cases h
  cases x with
  |np id off=>
   obtain ⟨p,P,g,r,I⟩:=h;unfold rnC;simp only;split
   ·rename_i e
    have e:=Nat.eq_of_beq_eq_true e;subst e;exact ⟨p,T,g,by rw [r];unfold npV;rw [ID U],fun g' hg=>I g' (by simp only [if_pos] at hg;exact hg)⟩
   ·rename_i e
    split
    ·exact ⟨p,trivial⟩
    ·rename_i R
     exact ⟨p,P,g,r,fun g' hg=>I g' (by simp only [if_neg (J e),if_neg (C R)] at hg;exact hg)⟩
  |sli id e n c=>
   obtain ⟨p,P,hn,g,r,I⟩:=h;unfold rnC;simp only;split
   ·rename_i e
    have e:=Nat.eq_of_beq_eq_true e;subst e;exact ⟨p,T,hn,g,r,fun g' hg=>I g' (by simp only [if_pos] at hg;exact hg)⟩
   ·rename_i e
    split
    ·exact ⟨p,trivial⟩
    ·rename_i R
     exact ⟨p,P,hn,g,r,fun g' hg=>I g' (by simp only [if_neg (J e),if_neg (C R)] at hg;exact hg)⟩
  |pel=>exact ⟨.top _ h.1.one,trivial⟩
  |lst t e l=>cases t<;>exact h
  |_=>exact h
 kind:=fun x h=>by
  cases x<;>first
   |exact h
   |(cases h;done)
   |(unfold rnC;simp only;split<;>first|rfl|(split<;>rfl))
 ptr:=fun id off v ⟨g,p,r,I⟩=>⟨g,by show (if id=j then G.B i else if id=i then none else G.B id)=some g;rw [if_neg (by omega),if_neg (by omega)];exact p,r,I⟩
 pel:=fun id e k n cs v ⟨_,g,r,_⟩=>⟨by rw [r];exact .top _ rfl,trivial⟩
theorem Weak.ren (fr:Fr) {st:St} {x:List AV×Bool} (i j:Nat) (hb:st.box i=some x) (hf:st.box j=none:=by rfl) (hi:1000000≤i:=by decide) (hj:1000000≤j:=by decide) (hj2:j<2000000:=by decide) (hm:kd j=kd i:=by rfl):Weak fr st (mpF (rnC i j) fr) ⟨fun id=>match Nat.beq id j with|true=>mpB (rnC i j) st.box i|false=>match Nat.beq id i with|true=>none|false=>mpB (rnC i j) st.box id,st.row⟩:=by
 intro E G a w h;have hij:i≠j:=fun e=>by rw [e,hf] at hb;cases hb
 have hM:=Lz (G:=G) hi hj hm
 have T: ∀id g,(rnG G i j).B id=some g→ ∃id',G.B id' =some g∧((id=j∧id' =i)∨(id≠j∧id≠i∧id' =id)):=fun id g hg=>by
  simp only at hg;split at hg
  ·rename_i e;exact ⟨i,hg,.inl ⟨e,rfl⟩⟩
  ·rename_i e
   split at hg
   ·cases hg
   ·rename_i C;exact ⟨id,hg,.inr ⟨e,C,rfl⟩⟩
 have J: ∀id,(match Nat.beq id j with|true=>mpB (rnC i j) st.box i|false=>match Nat.beq id i with|true=>none|false=>mpB (rnC i j) st.box id)=if id=j then mpB (rnC i j) st.box i else if id=i then none else mpB (rnC i j) st.box id:=fun id=>by
  by_cases e:id=j
  ·rw [if_pos e,e,Nat.beq_refl]
  ·rw [if_neg e,uv e]
   by_cases C:id=i
   ·rw [if_pos C,C,Nat.beq_refl]
   ·rw [if_neg C,uv C]
 have box: ∀id cs fz,mpB (rnC i j) st.box id=some (cs,fz)→ ∃g,G.B id=some g∧ ∀id',kd id' =kd id→Me E (rnG G i j) w id' g cs fz:=fun id cs fz p=>by
  obtain ⟨ds,R,rfl⟩:=CN p;obtain ⟨g,P,I,t,vs,U,k4,k5,k6⟩:=h.box id ds fz R;obtain ⟨q1,q2⟩:=hM.cs k4 k5;exact ⟨g,P,fun id' hid=>⟨I,t,vs,U.num hid,q1,q2,k6⟩⟩
 refine ⟨rnG G i j,
  { defers:=h.defers
    size:=h.size
    slots:=fun s x p=>hM.ff h.slots s x p
    hold:=h.hold
    ext:=h.ext
    below:=h.below
    box:=fun id cs fz p=> ?_
    bnone:=fun id p=> ?_
    binj:=fun id id' g R h2=> ?_
    row:=fun s r p=>⟨(h.row s r p).1,fun id hid=>by obtain ⟨id',R,_⟩:=T id _ hid;exact (h.row s r p).2 id' R⟩
    rinj:=h.rinj
    rlt:=h.rlt
    phi:=fun k x hk=>⟨(h.phi k x hk).1,fun id hid=>by obtain ⟨id',R,_⟩:=T id _ hid;exact (h.phi k x hk).2.1 id' R,(h.phi k x hk).2.2⟩
    phinj:=h.phinj
    pnone:=fun k hk=>h.pnone k (CM hk)
    small:=h.small
    keep:=fun id g h2 hg=> ?_}⟩
 ·replace p:=(J id).symm.trans p
  by_cases e:id=j
  ·rw [if_pos e] at p
   obtain ⟨g,P,I⟩:=box i cs fz p;exact ⟨g,by show (if id=j then G.B i else _)=_;rw [if_pos e];exact P,I id (by rw [e,hm])⟩
  ·rw [if_neg e] at p
   by_cases C:id=i
   ·rw [if_pos C] at p;cases p
   ·rw [if_neg C] at p
    obtain ⟨g,P,I⟩:=box id cs fz p;exact ⟨g,by show (if id=j then G.B i else if id=i then none else G.B id)=_;rw [if_neg e,if_neg C];exact P,I id rfl⟩
 ·replace p:=(J id).symm.trans p
  show (if id=j then G.B i else if id=i then none else G.B id)=none;by_cases e:id=j
  ·rw [if_pos e] at p⊢;exact h.bnone i (wC p)
  ·rw [if_neg e] at p⊢
   by_cases C:id=i
   ·rw [if_pos C]
   ·rw [if_neg C] at p⊢;exact h.bnone id (wC p)
 ·obtain ⟨i1,P,I⟩:=T id g R
  obtain ⟨i2,q1,q2⟩:=T id' g h2;have:=h.binj i1 i2 g P q1;rcases I with ⟨I,U⟩|⟨I,U,k4⟩<;>rcases q2 with ⟨q2,q3⟩|⟨q2,q3,q4⟩<;>omega
 ·obtain ⟨i1,P,I⟩:=T id g hg
  rcases I with ⟨I,U⟩|⟨I,U,k4⟩
  ·omega
  ·rw [←k4];exact h.keep i1 g (by omega) P
theorem Weak.introZ {L:List (Nat×AV)} {BL:List (Nat×List AV×Bool)} (g:my ⟨zB st.row st.box,fun _=>0⟩ (zF st.row fr) L) (i:pt ⟨zB st.row st.box,fun _=>0⟩ BL) (j:nM L BL=true) (p:wu BL):Weak fr st (ar L) ⟨ag BL,fun _=>0⟩:=fun E G a w h=>by
 obtain ⟨r,C⟩:=Weak.zero fr st E G a w h;exact wN g i rfl j p E r a w C
def AV.renK (ρ:Nat→Nat):AV→AV
 | .lst (.own k v) e l=> .lst (.own (ρ k) v) e l
 |a=>a.ren ρ
def y2 (ρ:Nat→Nat) (S:List (Nat×List AV)):List (Nat×List AV):=S.map fun x=>(ρ x.1,x.2.map (AV.renK ρ))
theorem oM (ρ:Nat→Nat) (a:AV):(a.renK ρ).unown=a.unown:=by
 cases a with
 |lst t e l=>cases t<;>rfl
 |_=>rfl
theorem rC (ρ:Nat→Nat) (S:List (Nat×List AV)):aw (y2 ρ S)=(aw S).map ρ:=by unfold aw y2;rw [List.map_map,List.map_map];rfl
theorem CO {ρ:Nat→Nat} (g: ∀i,kd (ρ i)=kd i) {R:Nat→Option RowI} {v:Value} {k n j e:Nat} {l:List (List AV)}:sU R v (.lst (.own (ρ k) n) e l)↔sU (fun i=>R (ρ i)) v (.lst (.own k j) e l):=by unfold sU;simp only [Mb (g k)]
theorem TagBK.ren {ρ:Nat→Nat} (g: ∀i,kd (ρ i)=kd i) {B p:Nat→Option Nat} {R j:Nat→Option RowI} (h: ∀i,B (ρ i)=p i) (r: ∀i,R (ρ i)=j i) {v:Value} {a:AV}:(TagB B v (a.renK ρ)∧sU R v (a.renK ρ))↔(TagB p v a∧sU j v a):=by
 have e:j=fun i=>R (ρ i):=funext fun i=>(r i).symm
 subst e;cases a with
 |lst t e l=>cases t with
  |own k n=>exact and_congr Iff.rfl (CO g)
  |_=>exact Iff.rfl
 |np i o=>exact and_congr (TagB.ren (a:= .np i o) g h) Iff.rfl
 |sli i e n c=>exact and_congr (TagB.ren (a:= .sli i e n c) g h) Iff.rfl
 |_=>exact Iff.rfl
theorem BoxesAtK.ren {ρ:Nat→Nat} (p: ∀i,kd (ρ i)=kd i) {σ:Sg} {w:World} {B C:Nat→Option Nat} {R I:Nat→Option RowI} (h: ∀i,B (ρ i)=C i) (J: ∀i,R (ρ i)=I i) {S:List (Nat×List AV)} (P:BoxesAtK σ w C I S):BoxesAtK σ w B R (y2 ρ S):=by
 intro id cs T;obtain ⟨x,U,e⟩:=List.mem_map.1 T;cases e;obtain ⟨g,t,vs,k1,k2,k3,k4,k5⟩:=P x.1 x.2 U;refine ⟨g,t,vs,(h x.1).trans k1,k2.num (p _),by rw [List.map_map,show AV.unown∘AV.renK ρ=AV.unown from funext (oM ρ)];exact k3,fun j v c hv r=> ?_,k5⟩;rw [gA8] at r;cases hl:x.2[j]? with
 |none=>rw [hl] at r;cases r
 |some y=>rw [hl] at r;cases r;exact (TagBK.ren p h J).2 (k4 j v y hv hl)
theorem BoxesAtK.unren {ρ:Nat→Nat} (p: ∀i,kd (ρ i)=kd i) {σ:Sg} {w:World} {B r:Nat→Option Nat} {R C:Nat→Option RowI} (h: ∀i,B (ρ i)=r i) (J: ∀i,R (ρ i)=C i) {S:List (Nat×List AV)} (P:BoxesAtK σ w B R (y2 ρ S)):BoxesAtK σ w r C S:=by
 intro id cs T;obtain ⟨g,t,vs,U,k2,I,k4,k5⟩:=P (ρ id) (cs.map (AV.renK ρ)) (List.mem_map.2 ⟨(id,cs),T,rfl⟩);rw [List.map_map,show AV.unown∘AV.renK ρ=AV.unown from funext (oM ρ)] at I;exact ⟨g,t,vs,(h id).symm.trans U,k2.num (p _).symm,I,fun j v c hv hc=>(TagBK.ren p h J).1 (k4 j v (c.renK ρ) hv (by rw [gA8,hc];rfl)),k5⟩
theorem RelK1.ren {ρ:Nat→Nat} (g: ∀i,kd (ρ i)=kd i) {σ:Sg} {B p:Nat→Option Nat} {R j:Nat→Option RowI} (h: ∀i,B (ρ i)=p i) (r: ∀i,R (ρ i)=j i) {v:Value} {a:AV}:RelK1 σ B R v (a.renK ρ)↔RelK1 σ p j v a:=by
 have e:j=fun i=>R (ρ i):=funext fun i=>(r i).symm
 subst e;cases a with
 |lst t e l=>cases t with
  |own k n=>exact and_congr Iff.rfl (CO g)
  |_=>exact Iff.rfl
 |np i o=>exact RelB1.ren (σ:=σ) (a:= .np i o) g h
 |sli i e n c=>exact RelB1.ren (σ:=σ) (a:= .sli i e n c) g h
 |_=>exact Iff.rfl
def AV.renK2 (ρ:Nat→Nat):AV→AV
 | .agg cs=> .agg (cs.map (AV.renK ρ))
 |a=>a.renK ρ
def AV.renKR (ρ:Nat→Nat):AV→AV
 | .tup l=> .tup (l.map (AV.renK2 ρ))
 |a=>a.renK2 ρ
theorem RelK2.ren {ρ:Nat→Nat} (g: ∀i,kd (ρ i)=kd i) {σ:Sg} {B C:Nat→Option Nat} {R I:Nat→Option RowI} (h: ∀i,B (ρ i)=C i) (r: ∀i,R (ρ i)=I i) {v:Value} {a:AV} (hr:RelK2 σ C I v a):RelK2 σ B R v (a.renK2 ρ):=by
 cases a with
 |agg cs=>
  obtain ⟨vs,e,J,P⟩:=hr;refine ⟨vs,e,by rw [List.map_map,show AV.unown∘AV.renK ρ=AV.unown from funext (oM ρ)];exact J,fun j u x T p=> ?_⟩;rw [gA8] at p;cases hl:cs[j]? with
  |none=>rw [hl] at p;cases p
  |some y=>rw [hl] at p;cases p;exact (TagBK.ren g h r).2 (P j u y T hl)
 |lst t e l=>cases t with
  |own k n=>exact (RelK1.ren (σ:=σ) (a:= .lst (.own k n) e l) g h r).2 hr
  |_=>exact hr
 |np i o=>exact (RelK1.ren (σ:=σ) (a:= .np i o) g h r).2 hr
 |sli i e n c=>exact (RelK1.ren (σ:=σ) (a:= .sli i e n c) g h r).2 hr
 |_=>exact hr
theorem RelK.ren {ρ:Nat→Nat} (g: ∀i,kd (ρ i)=kd i) {σ:Sg} {B C:Nat→Option Nat} {R I:Nat→Option RowI} (h: ∀i,B (ρ i)=C i) (p: ∀i,R (ρ i)=I i) {v:Value} {a:AV} (hr:RelK σ C I v a):RelK σ B R v (a.renKR ρ):=by
 cases a with
 |tup l=>
  obtain ⟨vs,e,J,P⟩:=hr;refine ⟨vs,e,by rw [J,List.length_map],fun j u x T r=> ?_⟩;rw [gA8] at r;cases hl:l[j]? with
  |none=>rw [hl] at r;cases r
  |some y=>rw [hl] at r;cases r;exact RelK2.ren g h p (P j u y T hl)
 |lst t e l=>cases t with
  |own k n=>exact RelK2.ren (σ:=σ) (a:= .lst (.own k n) e l) g h p hr
  |_=>exact hr
 |agg cs=>exact RelK2.ren (σ:=σ) (a:= .agg cs) g h p hr
 |np i o=>exact RelK2.ren (σ:=σ) (a:= .np i o) g h p hr
 |sli i e n c=>exact RelK2.ren (σ:=σ) (a:= .sli i e n c) g h p hr
 |_=>exact hr
theorem MTK.ren {f:FuncId} {args:List AV} {ks ks' :List Nat} {S S' :List (Nat×List AV)} {r:AV} (h:MTK P f ks S args ks' S' r) (ρ:Nat→Nat) (hρ: ∀i j,ρ i=ρ j→i=j) (hm: ∀i,kd (ρ i)=kd i):MTK P f (ks.map ρ) (y2 ρ S) (args.map (AV.renK ρ)) (ks'.map ρ) (y2 ρ S') (r.renKR ρ):=by
 refine ⟨h.cb,fun σ w B R vs hh hg T hinj hgl hrw hat hr=> ?_⟩
 have hK:KBR (fun i=>B (ρ i)) (fun i=>R (ρ i))=KBR B R:=funext fun b=>propext (by
  constructor
  ·rintro (⟨i,hi⟩|⟨k,r,C,J⟩)
   ·exact .inl ⟨_,hi⟩
   ·exact .inr ⟨_,r,C,J⟩
  ·rintro (⟨id,hid⟩|⟨k,r,C,J⟩)
   ·have:=T id b hid
    rw [rC] at this;obtain ⟨i,_,rfl⟩:=List.mem_map.1 this;exact .inl ⟨i,hid⟩
   ·obtain ⟨i,_,rfl⟩:=List.mem_map.1 (hrw.at_ k r C).1
    exact .inr ⟨i,r,C,J⟩)
 have hin: ∀(i:Nat) (l:List Nat),ρ i∈l.map ρ→i∈l:=fun i l hi=>by
  obtain ⟨k,U,e⟩:=List.mem_map.1 hi;rw [hρ _ _ e] at U;exact U
 refine (h.run σ w (fun i=>B (ρ i)) (fun i=>R (ρ i)) vs hh hg (fun i g hi=>hin i _ (by rw [←rC];exact T _ g hi)) (fun i j g C J=>hρ _ _ (hinj _ _ g C J)) (fun i g hi=>hgl _ g hi) ⟨fun k r U=> ?_,fun k k' r r' C J he=>hρ _ _ (hrw.inj _ _ r r' C J he)⟩ (hat.unren hm (fun _=>rfl) (fun _=>rfl)) ⟨by rw [hr.1,List.length_map],fun j v a hv ha=>(RelK1.ren (σ:=σ) hm (fun _=>rfl) (fun _=>rfl)).1 (hr.2 j v (a.renK ρ) hv (by rw [gA8,ha];rfl))⟩).mono fun e w' ⟨σ',v,B1,R1,he,hx,hh',hb,hdom',hinj',hrw',hat',hr',I,p,hkept⟩=> ?_
 ·obtain ⟨q1,q2,q3,q4⟩:=hrw.at_ _ r U
  exact ⟨hin k _ q1,q2,q3,fun id=>q4 _⟩
 ·rw [hK] at hx hb I p
  refine ⟨σ',v,Proofs.YtbgflifmanjpjaaGreatDoor.unren ρ B1,Proofs.YtbgflifmanjpjaaGreatDoor.unren ρ R1,he,hx,hh',hb,fun id g hg=> ?_,fun id id' g C J=> ?_,⟨fun k r U=> ?_,fun k k' r r' C J he=> ?_⟩,hat'.ren hm (fu hρ B1) (fu hρ R1),RelK.ren hm (fu hρ B1) (fu hρ R1) hr',fun id g hg=> ?_,fun k r U=> ?_,fun id g g' C J=> ?_⟩
  ·obtain ⟨i,rfl,hi⟩:=aQ hg
   rw [rC];exact List.mem_map.2 ⟨i,hdom' i g hi,rfl⟩
  ·obtain ⟨i,rfl,hi⟩:=aQ C
   obtain ⟨j,rfl,hj⟩:=aQ J;rw [hinj' i j g hi hj]
  ·obtain ⟨i,rfl,hi⟩:=aQ U
   obtain ⟨q1,q2,q3,q4⟩:=hrw'.at_ i r hi;refine ⟨List.mem_map.2 ⟨i,q1,rfl⟩,q2,q3,fun id hid=> ?_⟩;obtain ⟨j,rfl,hj⟩:=aQ hid;exact q4 j hj
  ·obtain ⟨i,rfl,hi⟩:=aQ C
   obtain ⟨j,rfl,hj⟩:=aQ J;rw [hrw'.inj i j r r' hi hj he]
  ·obtain ⟨i,rfl,hi⟩:=aQ hg
   exact I i g hi
  ·obtain ⟨i,rfl,hi⟩:=aQ U
   exact p i r hi
  ·obtain ⟨i,rfl,hi⟩:=aQ J
   exact hkept i g g' C hi
end
end Go.Proofs.YtbgflifmanjpjaaGreatDoor
