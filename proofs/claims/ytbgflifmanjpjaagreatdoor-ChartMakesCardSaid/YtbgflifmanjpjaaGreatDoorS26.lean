/- Part 26. -/
import Derived.Test.YtbgflifmanjpjaaGreatDoorS25
set_option linter.unusedSimpArgs false
set_option linter.unusedVariables false
namespace Go.Proofs.YtbgflifmanjpjaaGreatDoor
open Go.ChangeShapes Go.WideShapes Go.ChangeAt Go.RowKit Go.Deep
def σW (w:World):Sg:=fun b o=>w.cell? ⟨b,o,none⟩
theorem FL (w:World):Holds (σW w) w:=fun _ _ _ h=>h
theorem FN {α:Type} {R:List Value→α→Prop} {w:World} {B size:Nat} {v:Value} {l:List α} (h:Sl size R w B v l) (row:α→List AV) (hR: ∀cs x,R cs x→RelL (σW w) cs (row x)):Rel1 (σW w) v (.lst .any size (l.map row)):=by
 obtain ⟨A,cap,rfl,C,I⟩:=h;cases l with
 |nil=>exact .lst .any size [] A 0 cap 0 0 (fun _ _=>undef) rfl (by omega) (fun h=>by omega) (fun i c h=>by simp at h) (fun i j h=>by omega) (fun i j c a h=>by simp at h) trivial
 |cons T U=>
  obtain ⟨b,o,hA,_⟩:=I 0 T rfl;subst hA
  have key: ∀(i:Nat) x,(T::U)[i]? =some x→ ∃cs:List Value,cs.length=size∧R cs x∧ ∀(j:Nat) u,cs[j]? =some u→w.cell? ⟨b,o+i*size+j,none⟩=some u:=by
   intro i x hi;obtain ⟨b',o',hA,_,cs,J,r,P⟩:=I i x hi;injection hA with hA
   injection hA with e1 e2
   subst e1 e2;exact ⟨cs,J,r,P⟩
  refine .lst .any size _ _ _ cap b o (fun i j=>(w.cell? ⟨b,o+i*size+j,none⟩).getD undef) (by simp) C (fun _=>rfl) (fun i c g=> ?_) (fun i j hi hj=> ?_) (fun i j c a g ha=> ?_) trivial
  ·rw [gA8] at g
   cases p:(T::U)[i]? with
   |none=>rw [p] at g;cases g
   |some x=>
    rw [p] at g;cases g;obtain ⟨cs,J,r,_⟩:=key i x p;rw [←(hR cs x r).1,J]
  ·obtain ⟨cs,J,r,P⟩:=key i _ (gA1 hi)
   have h4:=P j _ (gA1 (by omega));simp only [σW,h4,Option.getD_some]
  ·rw [gA8] at g
   cases p:(T::U)[i]? with
   |none=>rw [p] at g;cases g
   |some x=>
    rw [p] at g;cases g;obtain ⟨cs,J,r,P⟩:=key i x p;obtain ⟨u,hu,hr⟩:=(hR cs x r).at_ ha;rw [P j u hu];exact hr
section
variable {H:Type} {enc:TypeId×Value→H} {P:Program}
def WtOk (P:Program) (t:TypeId) (d:DataW H):Prop:= ∀q∈d.weights P t,q≤reachBytes
theorem WtOk.part {t:TypeId} {g:Array Field} (ht:P.underlying t=some (.struct g)) {xs:List (DataW H×List MemPlace)} (h:WtOk P t (.agg (xs.map (·.1)))) {j:Nat} {f:Field} (i:g[j]? =some f) {x:DataW H×List MemPlace} (p:xs[j]? =some x):WtOk P f.type x.1:=by
 intro q r;refine h q ?_;unfold DataW.weights;rw [ht];exact DataW.weights_mem_each (j:=j) (by simp [i]) (by simp [p]) q r
theorem lx {e:TypeId}: ∀{ds:List (DataW H)} {d:DataW H},d∈ds→ ∀q∈d.weights P e,q∈DataW.weightsAll P e ds
 |d' ::ds,d,g,q,i=>by
  unfold DataW.weightsAll;rcases gB2 g with rfl|g
  ·exact List.mem_append_left _ i
  ·exact List.mem_append_right _ (lx g q i)
theorem Bl {α:Type} {R:List Value→α→Prop} {w:World} {base:Nat} {spare:Nat→Bool} {held:Bool} {t e:TypeId} {size:Nat} (ht:P.underlying t=some (.slice e)) (hC:P.cellsOf e=size) (hsz:0<size)
  {v:Value} {fuel:Nat} {x:DataW H×List MemPlace} (h:DataW.trod enc P w base spare held fuel t [v]=some x) (hw:WtOk P t x.1) (hR: ∀n cs y,n<fuel→DataW.trod enc P w base spare held n e cs=some y→WtOk P e y.1→ ∃a,R cs a):
  ∃l:List α,Sl size R w w.heap.size v l∧l.length*P.bytesOf e≤reachBytes:=by
 rcases DataW.trod_slice ht h with ⟨g,hx⟩|⟨a,len,cap,elems,rest,n,hn,g,hx,hb,hl,hm,hlen,hel,hsp,hns⟩
 ·injection g with g
  subst g;exact ⟨[],Sl.nil _ _,by simp⟩
 ·injection g with g
  subst g hC
  have hwt:(elems.length+rest.length)*P.bytesOf e≤reachBytes∧ ∀y∈elems,WtOk P e y.1:=by
   rw [hx] at hw;unfold WtOk DataW.weights at hw;simp only [ht] at hw;refine ⟨by simpa using hw _ (List.mem_cons_self ..),fun y hy q hq=>hw q (List.mem_cons_of_mem _ (List.mem_append_left _ (lx (List.mem_map_of_mem hy) q hq)))⟩
  have key: ∀i,i<len→ ∃cs y,w.cells? base (a.add (i*P.cellsOf e)) (P.cellsOf e)=some cs∧DataW.trod enc P w base spare held n e cs=some y∧WtOk P e y.1:=by
   intro i hi;have C:=hel i hi;have U:elems[i]? =some (elems[i]'(by omega)):=gA1 (by omega);rw [U] at C;obtain ⟨cs,r,h3⟩:=Option.bind_eq_some_iff.1 C;exact ⟨cs,_,r,h3,hwt.2 _ (gA2 U)⟩
  have I:0<len→a.spot=none:=by
   intro U;obtain ⟨cs,y,C,_⟩:=key 0 U;obtain ⟨_,J,T⟩:=World.cells?_some C;have r:=T 0 hsz;have e1:(a.add (0*P.cellsOf e)).add 0=a:=by simp [Addr.add]
   rw [e1] at r;cases hsp:a.spot with
   |none=>rfl
   |some s=>
    have:w.cell? a=none:=by
     unfold World.cell?;split
     ·simp [hsp]
     ·rfl
    rw [this] at r;have:cs[0]? =some (cs[0]'(by omega)):=gA1 (by omega);rw [this] at r;cases r
  have choice: ∀i:Fin len,∃(x:α) (cs:List Value),w.cells? base (a.add (i.1*P.cellsOf e)) (P.cellsOf e)=some cs∧R cs x:=by
   intro i;obtain ⟨cs,y,C,r,h3⟩:=key i.1 i.2;obtain ⟨x,hx⟩:=hR n cs y (by omega) r h3;exact ⟨x,cs,C,hx⟩
  refine ⟨List.ofFn fun i=>Classical.choose (choice i),⟨some a,cap,by rw [List.length_ofFn],by rw [List.length_ofFn];exact hl,?_⟩,by rw [List.length_ofFn,←hlen];exact gB7 (Nat.mul_le_mul_right _ (by omega)) hwt.1⟩;intro i x hi;have hil:i<len:=by have:=(gA0 hi).1;simpa using this
  rw [List.getElem?_ofFn] at hi;simp only [hil,dite_true,gB9] at hi;subst hi;obtain ⟨cs,C,r⟩:=Classical.choose_spec (choice ⟨i,hil⟩);obtain ⟨_,J,T⟩:=World.cells?_some C;have hs0:=I (by omega);obtain ⟨b,o,s⟩:=a;simp only at hs0;subst hs0
  have p: ∀(j:Nat) (u:Value),cs[j]? =some u→w.cell? ⟨b,o+i*P.cellsOf e+j,none⟩=some u:=by
   intro j u hu;have hj:j<P.cellsOf e:=by rw [←J];exact (gA0 hu).1
   have:=T j hj;rw [Addr.add_lit,Addr.add_lit] at this;rw [this,hu]
  refine ⟨b,o,rfl,?_,cs,J,r,p⟩;have U:cs[0]? =some (cs[0]'(by omega)):=gA1 (by omega);exact World.block_lt_of_cell? w _ (p 0 _ U)
end
section
variable {H:Type} {enc:TypeId×Value→H} {P:Program}
end
end Go.Proofs.YtbgflifmanjpjaaGreatDoor
