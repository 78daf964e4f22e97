/- Part 24. -/
import Derived.Test.YtbgflifmanjpjaaGreatDoorS23
set_option linter.unusedSimpArgs false
set_option linter.unusedVariables false
namespace Go.Proofs.YtbgflifmanjpjaaGreatDoor
open Go.RowKit
def vd:List (Nat×List AV×Bool)→Prop
 | []=>True
 |(s,cs,_)::L=>match Nat.ble 1000000 s with
  |true=>cs.all AV.noFrs=true∧vd L
  |false=>vd L
theorem Dq {L:List (Nat×AV)} {BL:List (Nat×List AV×Bool)} (i:m7 L BL=true) (j:vd BL): ∀y∈BL,∀d∈y.2.1,d.noFrs=true:=by
 intro y hy
 have r: ∀z∈BL,(match Nat.ble 1000000 z.1 with|true=>true|false=>z.2.1.all AV.noFrs)=true:=by
  unfold m7 at i;rw [gA9] at i;exact List.all_eq_true.1 i.2
 have p:=r y hy;cases hb:Nat.ble 1000000 y.1 with
 |false=>rw [hb] at p;exact List.all_eq_true.1 p
 |true=>
  have C: ∀(BL:List (Nat×List AV×Bool)),vd BL→ ∀y∈BL,Nat.ble 1000000 y.1=true→y.2.1.all AV.noFrs=true:=by
   intro BL
   induction BL with
   |nil=>intro _ y hy;cases hy
   |cons z L ih=>
    intro g y hy hb;obtain ⟨s,cs,fz⟩:=z;unfold vd at g;rcases gB2 hy with rfl|hy
    ·simp only at hb
     rw [hb] at g;exact g.1
    ·split at g
     ·exact ih g.2 y hy hb
     ·exact ih g y hy hb
  exact List.all_eq_true.1 (C BL j y hy hb)
theorem wN {fr:Fr} {st:St} {L:List (Nat×AV)} {BL:List (Nat×List AV×Bool)} {row:Nat→Nat} (I:lZ st fr L) (J:oO st BL) (h3:st.row=row) (h4:m7 L BL=true) (h5:vd BL):Weak fr st (ax L) ⟨ah BL,row⟩:=by
 intro E G a w h;subst h3
 have i: ∀id g,(if ah BL id=none then none else G.B id)=some g→G.B id=some g:=fun id g hg=>by
  split at hg
  ·cases hg
  ·exact hg
 have hx:G.less {G with B:=fun id=>if ah BL id=none then none else G.B id,φ:=fun _=>none}:=⟨rfl,rfl,i⟩
 refine ⟨{G with B:=fun id=>if ah BL id=none then none else G.B id,φ:=fun _=>none},
  { defers:=h.defers
    size:=h.size
    slots:=fun s x j=> ?_
    hold:=h.hold
    ext:=h.ext
    below:=h.below
    box:=fun id cs fz j=> ?_
    bnone:=fun id j=>by simp only at j⊢;rw [if_pos j]
    binj:=fun id id' g I J=>h.binj id id' g (i id g I) (i id' g J)
    row:=fun s r j=>⟨(h.row s r j).1,fun id hid=>(h.row s r j).2 id (i id _ hid)⟩
    rinj:=h.rinj
    rlt:=h.rlt
    phi:=fun k x U=>by cases U
    phinj:=fun k k' x x' U=>by cases U
    pnone:=fun _ _=>rfl
    small:=h.small
    keep:=fun id g I J=>h.keep id g I (i id g J)}⟩
 ·have P:=ue j
  obtain ⟨v0,hv0,p⟩:=kY I _ P;have C:=h4;unfold m7 at C;rw [gA9] at C;have T:=List.all_eq_true.1 C.1 _ P;simp only at T p;refine (h.slots s v0 hv0).le h hx ?_ (fun id off g e hg=> ?_) p
  ·cases x<;>first|rfl|exact T
  ·subst e
   simp only [List.any_eq_true] at T;obtain ⟨y,hy,hyb⟩:=T;simp only;rw [if_neg (nB hy (Nat.eq_of_beq_eq_true hyb))];exact hg
 ·have P:=p9 j
  obtain ⟨ds,hds,R⟩:=kZ J _ P;obtain ⟨g,k1,k2,t,vs,k3,k4,k5,k6⟩:=h.box id ds fz hds;obtain ⟨q1,q2⟩:=oN h hx k4 k5 (Dq h4 h5 _ P) R;refine ⟨g,?_,k2,t,vs,k3,q1,q2,k6⟩;simp only at j⊢;rw [if_neg (by rw [j];simp)];exact k1
end Go.Proofs.YtbgflifmanjpjaaGreatDoor
