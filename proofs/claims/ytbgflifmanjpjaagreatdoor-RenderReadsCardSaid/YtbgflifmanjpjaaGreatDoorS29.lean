/- Part 29. -/
import Derived.Test.YtbgflifmanjpjaaGreatDoorS28
import Derived.Maps.OwnOps
import Derived.Maps.Keyed
set_option linter.unusedSimpArgs false
set_option linter.unusedVariables false
namespace Go.Proofs.YtbgflifmanjpjaaGreatDoor
open Go.RowKit Go.Maps Go.MapKept Go.ChangeMaps
set_option linter.unusedSectionVars false
section
variable {K:Type} [DecidableEq K]
def tU (m:List (K×Value)) (κ:K):Option Value:=(m.find? fun p=>decide (p.1=κ)).map (·.2)
def EV (m:List (K×Value)) (κ:K) (v:Value):List (K×Value):=if κ∈m.map (·.1) then m.map (fun p=>if p.1=κ then (κ,v) else p) else m++ [(κ,v)]
def Mp (P:Program) (k:TypeId) (enc:K→Value) (w:World) (b:Nat) (m:List (K×Value)):Prop:=
 ∃(g:Array MapEntry) (clock:Nat),w.heap[b]? =some (.map g clock)∧Stamped g clock∧g.toList.map (fun e=>(e.key,e.val))=m.map (fun p=>(enc p.1,p.2))∧
  ∀p∈m,∃l,keyOf P k (enc p.1)=some l
variable {P:Program} {k e t:TypeId} {enc:K→Value} {w w' :World} {b:Nat} {m:List (K×Value)}
theorem Mp.find (h:Mp P k enc w b m) (L:Keyed P k) (T: ∀a c,enc a=enc c→a=c) {κ:K} {l:Lit} (C:keyOf P k (enc κ)=some l):
  ∃(g:Array MapEntry) (clock:Nat),w.heap[b]? =some (.map g clock)∧Stamped g clock∧g.toList.map (fun e=>(e.key,e.val))=m.map (fun p=>(enc p.1,p.2))∧
   ((∀w,(Instr.findKey k (enc κ) g.toList).run P w= .ok none w)∧(∀x∈g.toList,x.key≠enc κ)∧κ∉m.map (·.1)∨
    ∃(j:Nat) (i:MapEntry) (v:Value),(∀w,(Instr.findKey k (enc κ) g.toList).run P w= .ok (some (j,i.val)) w)∧g.toList[j]? =some i∧i.key=enc κ∧i.val=v∧m[j]? =some (κ,v)):=by
 obtain ⟨g,clock,hb,U,hm,hk⟩:=h;refine ⟨g,clock,hb,U,hm,?_⟩
 have r: ∀x∈g.toList,∃l,keyOf P k x.key=some l:=by
  intro x hx;have:(x.key,x.val)∈g.toList.map (fun e=>(e.key,e.val)):=List.mem_map.2 ⟨x,hx,rfl⟩;rw [hm] at this;obtain ⟨p,hp,I⟩:=List.mem_map.1 this;obtain ⟨l,hl⟩:=hk p hp;simp only [Prod.mk.injEq] at I;exact ⟨l,by rw [←I.1];exact hl⟩
 have hat: ∀(j:Nat) (i:MapEntry),g.toList[j]? =some i→ ∃q,m[j]? =some q∧i.key=enc q.1∧i.val=q.2:=by
  intro j i hj;have h1:(g.toList.map (fun e=>(e.key,e.val)))[j]? =some (i.key,i.val):=by simp [hj]
  rw [hm,gA8] at h1;obtain ⟨q,hq,I⟩:=Option.map_eq_some_iff.1 h1;simp only [Prod.mk.injEq] at I;exact ⟨q,hq,I.1.symm,I.2.symm⟩
 rcases L.find w C g.toList r with ⟨h1,J⟩|⟨j,i,h1,J,h3⟩
 ·refine .inl ⟨fun w' => ?_,J,?_⟩
  ·rcases L.find w' C g.toList r with ⟨g1,_⟩|⟨j,i,_,R,g3⟩
   ·exact g1
   ·exact absurd g3 (J i (gA2 R))
  ·intro hin
   obtain ⟨p,hp,I⟩:=List.mem_map.1 hin;obtain ⟨j,hj⟩:=List.getElem?_of_mem hp;have h4:(m.map (fun p=>(enc p.1,p.2)))[j]? =some (enc p.1,p.2):=by simp [hj]
   rw [←hm,gA8] at h4;obtain ⟨x,hx,e2⟩:=Option.map_eq_some_iff.1 h4;simp only [Prod.mk.injEq] at e2;exact J x (gA2 hx) (by rw [e2.1,I])
 ·obtain ⟨q,hq,I,e2⟩:=hat j i J
  have hqκ:q.1=κ:=T _ _ (by rw [←I,h3]);refine .inr ⟨j,i,q.2,fun w' => ?_,J,h3,e2,?_⟩
  ·rcases L.find w' C g.toList r with ⟨_,R⟩|⟨j',e',g1,R,g3⟩
   ·exact absurd h3 (R i (gA2 J))
   ·have hnd:=U.2.2
    have hj:j' =j:=by
     have a1:(g.toList.map (·.key))[j']? =some (enc κ):=by simp [R,g3]
     have a2:(g.toList.map (·.key))[j]? =some (enc κ):=by simp [J,h3]
     have l1:=(gA0 a1).1;exact (List.getElem?_inj l1 hnd).1 (a1.trans a2.symm)
    subst hj;rw [J] at R;injection R with R
    subst R;exact g1
  ·rw [hq,←hqκ]
theorem Mp.nodup (h:Mp P k enc w b m):(m.map (·.1)).Nodup:=by
 obtain ⟨g,clock,hb,i,r,J⟩:=h
 have C:g.toList.map (·.key)=m.map (fun p=>enc p.1):=by
  have:=congrArg (List.map (·.1)) r;simpa [Function.comp_def] using this
 have j:=i.2.2;rw [C] at j;have I:(m.map (fun p=>enc p.1))=(m.map (·.1)).map enc:=by simp [Function.comp_def]
 rw [I,List.Nodup,List.pairwise_map] at j;exact j.imp fun h e=>h (by rw [e])
theorem Gc {j:Nat} {κ:K} {v:Value} (hn:(m.map (·.1)).Nodup) (h:m[j]? =some (κ,v)):tU m κ=some v:=by
 unfold tU;have g:=(gA0 h).1
 have r:m.find? (fun p=>decide (p.1=κ))=some (κ,v):=by
  rw [List.find?_eq_some_iff_getElem];refine ⟨by simp,j,g,(gA0 h).2,fun i hi=> ?_⟩;simp only [gB0,Bool.not_eq_true',decide_eq_false_iff_not];intro C;have I:(m.map (·.1))[i]? =some κ:=by rw [gA8,gA1 (by omega)];simp [C]
  have a2:(m.map (·.1))[j]? =some κ:=by simp [h]
  have:=(List.getElem?_inj (by simp;omega) hn).1 (I.trans a2.symm);omega
 rw [r];rfl
theorem y7 {κ:K} (h:κ∉m.map (·.1)):tU m κ=none:=by
 unfold tU;rw [List.find?_eq_none.2]
 ·rfl
 ·intro p g
  simp only [gB0];intro e;exact h (List.mem_map.2 ⟨p,g,e⟩)
theorem Mp.run_lookup (h:Mp P k enc w b m) (L:Keyed P k) (p: ∀a c,enc a=enc c→a=c) (ht:P.underlying t=some (.map k e)) {z:Value} (J: ∀w,(zeroValue e).run P w= .ok z w) {κ:K} {l:Lit} (g:keyOf P k (enc κ)=some l) (i:Bool):
  (Instr.lookup t (.map (some b)) (enc κ) i).run P w= .ok (if i then .tuple #[(tU m κ).getD z,.bool (tU m κ).isSome] else (tU m κ).getD z) w:=by
 have hn:=h.nodup;obtain ⟨C,clock,hb,R,hm,T⟩:=h.find L p g;rcases T with ⟨r,_,I⟩|⟨j,e0,v,r,h2,I,U,h5⟩
 ·rw [y7 I]
  cases i<;>simp [Instr.lookup,run_underlying ht,MapKept.run_getObj_map hb,L.check w _ g,r,J,Result.andThen]
 ·rw [Gc hn h5]
  cases i<;>simp [Instr.lookup,run_underlying ht,MapKept.run_getObj_map hb,L.check w _ g,r,U,Result.andThen]
theorem Mp.run_update (h:Mp P k enc w b m) (L:Keyed P k) (T: ∀a c,enc a=enc c→a=c) (ht:P.underlying t=some (.map k e)) {κ:K} {l:Lit} (g:keyOf P k (enc κ)=some l) (v:Value):
  ∃w',(Instr.mapUpdate t (.map (some b)) (enc κ) v).run P w= .ok () w' ∧Mp P k enc w' b (EV m κ v)∧w.grownBy w' (some b):=by
 have hn:=h.nodup;have U: ∀p∈m,∃l,keyOf P k (enc p.1)=some l:=by obtain ⟨_,_,_,_,_,hk⟩:=h;exact hk
 obtain ⟨r,clock,hb,hst,hm,hc⟩:=h.find L T g;have gr: ∀o,w.grownBy (setBlock w b o) (some b):=fun o=>⟨rfl,rfl,rfl,by simp [setBlock],fun i _ hi=>heap_setBlock_other hb o (fun e1=>hi (by rw [e1]))⟩
 rcases hc with ⟨h1,h2,h3⟩|⟨j,e0,u,h1,h2,h3,h4,h5⟩
 ·refine ⟨setBlock w b (.map (r.push ⟨enc κ,v,clock⟩) (clock+1)),?_,⟨_,_,heap_setBlock_same hb _,stamped_push hst h2,?_,?_⟩,gr _⟩
  ·simp [Instr.mapUpdate,run_underlying ht,MapKept.run_getObj_map hb,L.check w false g,h1,MapKept.run_setObj_map _ hb,Result.andThen,setBlock]
  ·rw [EV,if_neg h3,Array.toList_push,List.map_append,List.map_append,hm];rfl
  ·rw [EV,if_neg h3]
   intro p C;rcases gB5 C with C|C
   ·exact U p C
   ·simp at C;subst C;exact ⟨l,g⟩
 ·have hj:r[j]? =some e0:=by simpa using h2
  have hin:κ∈m.map (·.1):=List.mem_map.2 ⟨_,gA2 h5,rfl⟩;have hjl:=(gA0 h5).1;have J:(r.modify j (fun e' =>{e' with key:=enc κ,val:=v})).toList=r.toList.set j {e0 with key:=enc κ,val:=v}:=by rw [Array.toList_modify,modify_eq_set _ _ _ _ h2]
  have I:EV m κ v=m.set j (κ,v):=by
   rw [EV,if_pos hin];apply List.ext_getElem?;intro i;rw [gA8,List.getElem?_set];by_cases R:j=i
   ·subst R
    rw [if_pos rfl,h5];simp [hjl]
   ·rw [if_neg R]
    cases hi:m[i]? with
    |none=>rfl
    |some q=>
     have:q.1≠κ:=by
      intro e1;have a1:(m.map (·.1))[i]? =some κ:=by simp [hi,e1]
      have a2:(m.map (·.1))[j]? =some κ:=by simp [h5]
      have l1:=(gA0 a1).1;exact R ((List.getElem?_inj l1 hn).1 (a1.trans a2.symm)).symm
     simp [this]
  refine ⟨setBlock w b (.map (r.modify j (fun e' =>{e' with key:=enc κ,val:=v})) clock),?_,⟨_,_,heap_setBlock_same hb _,stamped_modify hst _ _ (fun _ _=>rfl) (fun e' _ he' =>by rw [hj] at he';cases he';exact h3.symm),?_,?_⟩,gr _⟩
  ·simp [Instr.mapUpdate,run_underlying ht,MapKept.run_getObj_map hb,L.check w false g,h1,hj,h3,L.stays w g,MapKept.run_setObj_map _ hb,Result.andThen,setBlock]
  ·rw [J,I,List.map_set,List.map_set,hm]
  ·rw [I]
   intro p C;rcases List.mem_or_eq_of_mem_set C with C|C
   ·exact U p C
   ·subst C;exact ⟨l,g⟩
end
end Go.Proofs.YtbgflifmanjpjaaGreatDoor
