/- Part 33. -/
import Derived.Test.YtbgflifmanjpjaaGreatDoorS32
import Derived.Maps.RangeRun
set_option linter.unusedSimpArgs false
set_option linter.unusedVariables false
namespace Go.Proofs.YtbgflifmanjpjaaGreatDoor
open Go.RowKit Go.MapKept
open Go.ChangeMaps (setBlock)
section
variable {P:Program} {mu:List Nat} {E:Env} {G G' :Gho} {fr fr' :Fr} {st st' :St} {a a0:Act} {w w0:World}
open Classical in
noncomputable def Env.re (E:Env) (w:World) (σ:Sg) (hg:GW w) (Pr:Nat→Prop):Env where
 w0:=w
 n:=E.n
 σ0:=σ
 gw:=hg
 B0:=fun id=>if (∃b,E.B0 id=some b∧ ¬Pr b) then E.B0 id else none
 kgl:=fun id b h=>by
  split at h
  ·exact E.kgl id b h
  ·cases h
 Kx:=fun b=>E.own b∧ ¬Pr b
 kgx:=fun b h=>E.ownGl h.1
theorem sM {σ:Sg} {hg:GW w} {Pr:Nat→Prop} {b:Nat}:(E.re w σ hg Pr).K0 b↔E.own b∧ ¬Pr b:=by
 constructor
 ·rintro (⟨id,h⟩|h)
  ·simp only [Env.re] at h
   split at h
   ·rename_i i
    obtain ⟨p,g,j⟩:=i;rw [h] at g;cases g;exact ⟨.inr (.inl ⟨id,h⟩),j⟩
   ·cases h
  ·exact h
 ·exact fun h=> .inr h
theorem rL {σ:Sg} {hg:GW w} {Pr:Nat→Prop} {b:Nat}:(E.re w σ hg Pr).own b↔w.heap.size≤b∨(E.own b∧ ¬Pr b):=by
 show _∨_↔_;rw [sM];exact Iff.rfl
def C2 (H:List (Nat×List AV)) (b:Nat→Option (List AV×Bool)):Nat→Option (List AV×Bool):=fun id=>match bO id (aw H) with
 |true=>none
 |false=>b id
def pX (H:List (Nat×List AV)) (st:St):St:=⟨jM (jL (aw H) st.box) [] H,st.row⟩
theorem J1 {H:List (Nat×List AV)} {b:Nat→Option (List AV×Bool)} {id:Nat} {x:List AV×Bool} (h:C2 H b id=some x):id∉aw H∧b id=some x:=by
 unfold C2 at h;split at h
 ·cases h
 ·rename_i g
  refine ⟨fun e=> ?_,h⟩;rw [aF.2 e] at g;cases g
theorem Conc.away (h:Conc E G fr st a w) {H:List (Nat×List AV)} (hH: ∀x∈H,st.box x.1=some (x.2,false)) (hid: ∀x∈H,1000000≤x.1) {Pr:Nat→Prop}
  (U: ∀b,Pr b→(∃x∈H,G.B x.1=some b)∨ ∃m s sn c,w.heap[b]? =some (.mapIter m s sn c)):
  Conc (E.re w G.σ (E.gwb h.below) Pr) {G with B:=fun id=>if id∈aw H then none else G.B id} fr ⟨C2 H st.box,st.row⟩ a w:=by
 have hd: ∀id,id∈aw H→ ∃cs,st.box id=some (cs,false)∧1000000≤id:=fun id P=>by
  obtain ⟨x,T,e⟩:=List.mem_map.1 P;subst e;exact ⟨x.2,hH x T,hid x T⟩
 have p: ∀id g,(if id∈aw H then none else G.B id)=some g→id∉aw H∧G.B id=some g:=fun id g hg=>by
  split at hg
  ·cases hg
  ·rename_i hn;exact ⟨hn,hg⟩
 have j: ∀(b:Nat) cs t z,w.heap[b]? =some (.cells cs t z)→(∀id,G.B id≠some b)→ ¬Pr b:=fun b cs t z hb hn hp=>by
  rcases U b hp with ⟨x,_,e⟩|⟨m,s,sn,c,e⟩
  ·exact hn _ e
  ·rw [hb] at e;cases e
 have J: ∀id g,id∉aw H→G.B id=some g→ ¬Pr g:=fun id g hn hg hp=>by
  rcases U g hp with ⟨x,T,e⟩|⟨m,s,sn,c,e⟩
  ·have:=h.binj id x.1 g hg e
   exact hn (this▸List.mem_map.2 ⟨x,T,rfl⟩)
  ·cases hbx:st.box id with
   |none=>rw [h.bnone id hbx] at hg;cases hg
   |some y=>
    obtain ⟨g',C,_,t,vs,⟨o,R,i⟩,_⟩:=h.box id y.1 y.2 hbx;rw [hg] at C;cases C;rw [e] at R;cases R;unfold nI at i;split at i
    ·obtain ⟨i,_⟩:=i;cases i
    ·obtain ⟨_,_,i,_⟩:=i;cases i
 have hle:G.le {G with B:=fun id=>if id∈aw H then none else G.B id}:=⟨.refl _,fun _ _ _ h=>h,fun _ _ h=>h,fun id g _ hg=>(p id g hg).2⟩
 exact
  { defers:=h.defers
    size:=h.size
    slots:=fun s x I=>(h.slots s x I).mono2 hle fun id g hlt hg=>by
     show (if id∈aw H then none else G.B id)=some g;rw [if_neg (fun P=>by obtain ⟨_,_,h3⟩:=hd id P;omega)];exact hg
    hold:=h.hold
    ext:=⟨.refl _,fun _ _ _ _=>rfl⟩
    below:=BelowK.refl _ _
    box:=fun id cs fz I=>by
     obtain ⟨hn,hb⟩:=J1 I;obtain ⟨g,C,R,t,vs,i,k4,k5,k6⟩:=h.box id cs fz hb;exact ⟨g,by show (if id∈aw H then none else G.B id)=some g;rw [if_neg hn];exact C,rL.2 (.inr ⟨R,J id g hn C⟩),t,vs,i,k4,k5.mono hle,k6⟩
    bnone:=fun id I=>by
     show (if id∈aw H then none else G.B id)=none;by_cases P:id∈aw H
     ·rw [if_pos P]
     ·rw [if_neg P]
      refine h.bnone id ?_;simp only [C2] at I;split at I
      ·rename_i T;exact absurd (aF.1 T) P
      ·exact I
    binj:=fun id id' g h1 h2=>h.binj id id' g (p id g h1).2 (p id' g h2).2
    row:=fun s r I=>by
     obtain ⟨⟨C,e,cur,i,k4⟩,k5⟩:=h.row s r I;exact ⟨⟨rL.2 (.inr ⟨C,j _ _ _ _ i k5⟩),e,cur,i,k4⟩,fun id hg=>k5 id (p id _ hg).2⟩
    rinj:=h.rinj
    rlt:=h.rlt
    phi:=fun k x hk=>by
     obtain ⟨⟨C,R⟩,i,k4⟩:=h.phi k x hk;have k2' :=R;obtain ⟨e,cur,q1,_⟩:=k2';exact ⟨⟨rL.2 (.inr ⟨C,j _ _ _ _ q1 i⟩),R⟩,fun id hg=>i id (p id _ hg).2,k4⟩
    phinj:=h.phinj
    pnone:=h.pnone
    small:=h.small
    keep:=fun id g h2 hg=>by
     obtain ⟨hn,hg⟩:=p id g hg;have hE:=h.keep id g h2 hg;simp only [Env.re];rw [if_pos ⟨g,hE,J id g hn hg⟩];exact hE}
theorem Conc.back (h0:Conc E G fr' st' a0 w0) {H:List (Nat×List AV)} (hH: ∀x∈H,st'.box x.1=some (x.2,false)) (hid: ∀x∈H,1000000≤x.1) (hin: ∀x∈H,∀c∈x.2,AV.inS (aw H) c=true) {Pr:Nat→Prop} {hg:GW w0}
  (hB: ∀x∈H,∀b,G.B x.1=some b→Pr b) (h:Conc (E.re w0 G.σ hg Pr) G' fr st a w):
  Conc E {G' with B:=fun id=>if id∈aw H then G.B id else G'.B id} (gB (aw H) fr) (pX H st) a w:=by
 have hd: ∀id,id∈aw H→ ∃cs g,st'.box id=some (cs,false)∧1000000≤id∧G.B id=some g∧Pr g∧g<w0.heap.size∧E.own g:=fun id hm=>by
  obtain ⟨x,hx,e⟩:=List.mem_map.1 hm;subst e;obtain ⟨g,I,T,t,vs,k3,_⟩:=h0.box x.1 x.2 false (hH x hx);exact ⟨x.2,g,hH x hx,hid x hx,I,hB x hx g I,k3.lt,T⟩
 have J: ∀id,id∈aw H→(if id∈aw H then G.B id else G'.B id)=G.B id:=fun id hm=>if_pos hm
 have C: ∀id,id∉aw H→(if id∈aw H then G.B id else G'.B id)=G'.B id:=fun id hm=>if_neg hm
 have U: ∀b,(E.re w0 G.σ hg Pr).own b→E.own b:=fun b hb=>by
  rcases rL.1 hb with hb|hb
  ·exact .inl (gB7 h0.lt hb)
  ·exact hb.1
 have hK: ∀x,(E.re w0 G.σ hg Pr).K0 x→E.K0 x∨E.w0.heap.size≤x:=fun x hx=>(sM.1 hx).1.symm
 have hnot: ∀g,Pr g→g<w0.heap.size→w.heap[g]? =w0.heap[g]? ∧ ∀j,G'.σ g j=G.σ g j:=fun g hp hlt=>
  ⟨h.below.block g hlt fun hk=>(sM.1 hk).2 hp,fun j=>h.ext.2 g j hlt fun hk=>(sM.1 hk).2 hp⟩
 have apart: ∀g,Pr g→g<w0.heap.size→ ¬(E.re w0 G.σ hg Pr).own g:=fun g hp hlt ho=>by
  rcases rL.1 ho with ho|ho
  ·omega
  ·exact ho.2 hp
 have hσ:G.σ.le G'.σ:=h.ext.1
 have hle:Gho.leN (aw H) G' {G' with B:=fun id=>if id∈aw H then G.B id else G'.B id}:=
  { σ:= .refl _
    ρ:=fun _ _ _ h=>h
    φ:=rfl
    B:=fun id g _ hn hg=>by
     simp only at hg;rw [C id hn] at hg;exact hg
    lo:=fun id g hlt hg=>by
     simp only;rw [C id fun hm=>by obtain ⟨_,_,_,h3,_⟩:=hd id hm;omega];exact hg}
 have hput: ∀id,(pX H st).box id=(match oc H id with
   |some cs=>some (cs,false)
   |none=>(st.box id).map fun x=>(x.1.map (eZ (aw H)),x.2)):=fun id=>by
  show jM (jL (aw H) st.box) [] H id=_;unfold jM;cases oc H id with
  |some cs=>rfl
  |none=>
   simp only [bO];rw [FQ]
 have hbx: ∀id g,id∉aw H→G'.B id=some g→(E.re w0 G.σ hg Pr).own g:=fun id g _ hg=>by
  cases hq:st.box id with
  |none=>rw [h.bnone id hq] at hg;cases hg
  |some y=>
   obtain ⟨g',I,T,_⟩:=h.box id y.1 y.2 hq;rw [hg] at I;cases I;exact T
 exact
  { defers:=h.defers
    size:=h.size
    slots:=fun s x P=>by
     rw [uy] at P;cases hf:fr s with
     |none=>rw [hf] at P;cases P
     |some y=>rw [hf] at P;cases P;exact Bt hle (h.slots s y hf)
    hold:=h.hold
    ext:=h0.ext.trans h.ext h0.lt hK
    below:=h0.below.trans h.below hK
    box:=fun id cs fz P=>by
     rw [hput] at P;split at P
     ·rename_i cs' hq
      cases P;have hm:=uQ hq;have hdm:id∈aw H:=List.mem_map.2 ⟨_,hm,rfl⟩;obtain ⟨g,I,T,t,vs,k3,k4,k5,k6⟩:=h0.box id cs false (hH _ hm);obtain ⟨q1,q2⟩:=hnot g (hB _ hm g I) k3.lt;refine ⟨g,by simp only;rw [J id hdm];exact I,T,t,vs,k3.of q1,k4.mono hσ,fun j v c hv hc=> ?_,fun j=>(q2 j).trans (k6 j)⟩;have hi:=hin _ hm c (gA2 hc);have ht:=k5 j v c hv hc;cases c with
      |np i o=>
       simp only [AV.inS,gA9] at hi;obtain ⟨q0,g2,q1,q2⟩:=ht;exact ⟨q0,g2,q1,fun g' p=>q2 g' (by simp only at p;rw [J i (aF.1 hi.2)] at p;exact p)⟩
      |sli i e n c=>
       simp only [AV.inS,gA9] at hi;obtain ⟨q0,qn,g2,q1,q2⟩:=ht;exact ⟨q0,qn,g2,q1,fun g' p=>q2 g' (by simp only at p;rw [J i (aF.1 hi.2)] at p;exact p)⟩
      |lst t e l=>cases t<;>first|trivial|cases hi
      |frs k e r=>cases hi
      |_=>trivial
     ·rename_i hq
      have hdm:=iU hq;cases hbq:st.box id with
      |none=>rw [hbq] at P;cases P
      |some x=>
       rw [hbq] at P;cases P;obtain ⟨g,I,T,t,vs,k3,k4,k5,k6⟩:=h.box id x.1 x.2 hbq;obtain ⟨q3,q4⟩:=mm hle k4 k5;exact ⟨g,by simp only;rw [C id hdm];exact I,U g T,t,vs,k3,q3,q4,k6⟩
    bnone:=fun id P=>by
     rw [hput] at P;simp only;split at P
     ·cases P
     ·rename_i hq
      rw [C id (iU hq)];cases hbq:st.box id with
      |none=>exact h.bnone id hbq
      |some x=>rw [hbq] at P;cases P
    binj:=fun id1 id2 g h1 h2=>by
     simp only at h1 h2;by_cases R:id1∈aw H<;>by_cases m2:id2∈aw H
     ·rw [J _ R] at h1;rw [J _ m2] at h2;exact h0.binj id1 id2 g h1 h2
     ·rw [J _ R] at h1;rw [C _ m2] at h2
      obtain ⟨_,g',_,_,I,T,k3,_⟩:=hd id1 R;rw [h1] at I;cases I;exact absurd (hbx id2 g m2 h2) (apart g T k3)
     ·rw [C _ R] at h1;rw [J _ m2] at h2
      obtain ⟨_,g',_,_,I,T,k3,_⟩:=hd id2 m2;rw [h2] at I;cases I;exact absurd (hbx id1 g R h1) (apart g T k3)
     ·rw [C _ R] at h1;rw [C _ m2] at h2;exact h.binj id1 id2 g h1 h2
    row:=fun s r P=>by
     obtain ⟨⟨I,T⟩,k3⟩:=h.row s r P;refine ⟨⟨U _ I,T⟩,fun id p=> ?_⟩;simp only at p;by_cases R:id∈aw H
     ·rw [J _ R] at p
      obtain ⟨_,g',_,_,q1,q2,q3,_⟩:=hd id R;rw [p] at q1;cases q1;exact apart _ q2 q3 I
     ·rw [C _ R] at p;exact k3 id p
    rinj:=h.rinj
    rlt:=h.rlt
    phi:=fun k x hk=>by
     obtain ⟨⟨I,T⟩,k3,k4⟩:=h.phi k x hk;refine ⟨⟨U _ I,T⟩,fun id p=> ?_,k4⟩;simp only at p;by_cases R:id∈aw H
     ·rw [J _ R] at p
      obtain ⟨_,g',_,_,q1,q2,q3,_⟩:=hd id R;rw [p] at q1;cases q1;exact apart _ q2 q3 I
     ·rw [C _ R] at p;exact k3 id p
    phinj:=h.phinj
    pnone:=fun k hk=>h.pnone k (by
     rw [uy] at hk;cases hf:fr k with
     |none=>rfl
     |some y=>rw [hf] at hk;cases hk)
    small:=h.small
    keep:=fun id g h2 p=>by
     simp only at p;by_cases R:id∈aw H
     ·rw [J _ R] at p;exact h0.keep id g h2 p
     ·rw [C _ R] at p
      have:=h.keep id g h2 p;simp only [Env.re] at this;split at this
      ·exact this
      ·cases this}
theorem HQ (st:St):pX [] st=st:=by
 unfold pX
 have:jM (jL (aw []) st.box) [] []=st.box:=by
  funext id;show (match oc [] id with|some cs=>some (cs,false)|none=>match bO id [] with|true=>none|false=>jL (aw []) st.box id)=_;rfl
 rw [this]
theorem Conc.away0 (h:Conc E G fr st a w) {r:Nat} {m:Option Nat} {s:Nat} {i:Array Nat} {c:Nat} (hr:w.heap[r]? =some (.mapIter m s i c)):
  Conc (E.re w G.σ (E.gwb h.below) (fun b=>b=r)) G fr st a w:=by
 have j:=h.away (H:= []) (fun x g=>by cases g) (fun x g=>by cases g) (Pr:=fun b=>b=r) (fun b e=> .inr ⟨m,s,i,c,e▸hr⟩);exact j
theorem Conc.back0 (j:Conc E G fr' st' a0 w0) {r:Nat} {hg:GW w0} (h:Conc (E.re w0 G.σ hg (fun b=>b=r)) G' fr st a w):Conc E G' fr st a w:=by
 have i:=Conc.back (H:= []) j (fun x g=>by cases g) (fun x g=>by cases g) (fun x g=>by cases g) (fun x g=>by cases g) h;rw [HQ] at i;exact i
end
end Go.Proofs.YtbgflifmanjpjaaGreatDoor
