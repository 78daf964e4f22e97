/- Part 4. -/
import Derived.Test.YtbgflifmanjpjaaGreatDoorS3
import Derived.Orders
set_option linter.unusedSimpArgs false
set_option linter.unusedVariables false
namespace Go.Proofs.YtbgflifmanjpjaaGreatDoor
section
open Go.RowKit
section
variable {P:Program} {mu:List Nat} {E:Env} {G:Gho} {fr fr' :Fr} {st st' :St} {a:Act} {w:World} {o:Oper} {K:Act→World→Prop} {Q:Exit→Act→World→Prop} {p:Prop} {rs:Option RS} {i:AI} {gs:Bool}
theorem yE (off:Nat): ∀(vs:List Value) (k:Nat) (cells:Array Value),off+k+vs.length≤cells.size→
  ((vs.zipIdx k).foldl (fun cs (x:Value×Nat)=>cs.setIfInBounds (off+x.2) x.1) cells).toList=cells.toList.take (off+k)++vs++cells.toList.drop (off+k+vs.length)
 | [],k,cells,_=>by simp
 |v::vs,k,cells,h=>by
  simp only [List.zipIdx_cons,List.foldl_cons];rw [yE off vs (k+1) _ (by simp at h⊢;omega)];have e:=list_seg_step cells.toList (off+k) v vs (by simp at h⊢;omega);simpa [Array.toList_setIfInBounds,Nat.add_assoc] using e
theorem uW (h:Conc E G fr st a w) {place:Nat→Option (Nat×Nat×TypeId)} {place' :Nat→Option (Nat×Nat)} (U: ∀i off size t,place i=some (off,size,t)→place' i=some (off,size)):
  ∀{ps:List (Nat×Operand)} {r:List (Nat×Nat×Opd)} {T cs:List AV} {g:Array Value},pm P place ps=some r→sg fr T r=some cs→RelL G.σ g.toList (T.map AV.unown)→TagsOk G g.toList T→
   ∃cells,Instr.fill place' g (ps.map fun x=>(x.1,a.eval x.2))=some cells∧RelL G.σ cells.toList (cs.map AV.unown)∧TagsOk G cells.toList cs
 | [],r,T,cs,g,C,j,h3,h4=>by
  cases C;cases j;exact ⟨g,rfl,h3,h4⟩
 |(i,x)::ps,r,T,cs,g,C,j,h3,h4=>by
  unfold pm at C;split at C
  ·rename_i off size t hp
   split at C
   ·rename_i y l hy hl hb
    cases C;unfold sg at j;split at j
    ·rename_i c hc
     split at j
     ·rename_i cs' hcs
      split at j
      ·rename_i hbq
       split at j
       ·rename_i zs' hsp
        obtain ⟨r1,r2⟩:=(h.ev hy hc).cells hcs;have hsz:=Nat.eq_of_beq_eq_true hbq;have hpos:1≤size:=Nat.le_of_ble_eq_true hb;obtain ⟨q1,q2,q3⟩:=dg hsp;have hne:cs' ≠ []:=fun e=>by rw [e] at hsz;simp at hsz;omega
        have hle:=q2 hne;have I:g.toList.length=T.length:=by simpa using h3.1
        have J:(a.eval x).cells.toList.length=cs'.length:=by simpa using r1.1
        have p:=h3.splice h4 r1 r2 hsp (by rw [I,J];exact hle)
        have R:((a.eval x).cells.zipIdx.foldl (fun cs (x:Value×Nat)=>cs.setIfInBounds (off+x.2) x.1) g).toList=g.toList.take off++(a.eval x).cells.toList++g.toList.drop (off+(a.eval x).cells.toList.length):=by
         have:=yE off (a.eval x).cells.toList 0 g (by simp at I J⊢;omega);rw [←Array.foldl_toList,Array.toList_zipIdx];simpa using this
        rw [←R] at p;obtain ⟨cells,k1,k2,k3⟩:=uW h U hl j p.1 p.2;refine ⟨cells,?_,k2,k3⟩;simp only [List.map_cons,Instr.fill,U i off size t hp]
        have e1:((a.eval x).cells.size≠size||decide (off+(a.eval x).cells.size>g.size))=false:=by
         simp at I J⊢;omega
        rw [if_neg (by simpa using e1)];exact k1
       ·cases j
      ·cases j
     ·cases j
    ·cases j
   ·cases C
  ·cases C
theorem Bu {t:TypeId} {z:List AV} (i:qo P t=some z): ∃g v,P.info? t=some g∧g.zero=some v∧RelL G.σ v.cells.toList (z.map AV.unown)∧TagsOk G v.cells.toList z:=by
 unfold qo at i;split at i
 ·rename_i g j
  split at i
  ·rename_i v p
   obtain ⟨r,C⟩:=iB (G:=G) i;exact ⟨g,v,j,p,r,C⟩
  ·cases i
 ·cases i
theorem GO (h:Conc E G fr st a w) {t:TypeId} {ps:Array (Nat×Operand)} (ho:o.op= .build t ps) (hi:aW P mu gs o=some i) (r:aj P i rs fr st=some (fr',st',p)) (hn: ∀d,o.dst=some d→d<E.n) (hk:Then E fr' st' K):o.wp P a w K Q:=by
 unfold aW at hi;rw [ho] at hi;simp only at hi;split at hi
 ·rename_i d z fs hd hz hu
  split at hi
  ·rename_i pl C
   split at hi
   ·rename_i l hl
    cases hi;simp only [aj] at r;split at r
    ·rename_i cs I
     cases r;obtain ⟨inf,zv,g,J,R,T⟩:=Bu (G:=G) hz
     obtain ⟨cells,k1,k2,k3⟩:=uW h (place' :=(pl.toArray[·]?)) (fun i off size t' U=>by
      split at U
      ·rename_i h1 h2;cases U;exact h1
      ·cases U) hl I R T
     have hb:P.built t (ps.toList.map fun x=>(x.1,a.eval x.2))=some cells:=by
      simp only [Program.built,g,hu,J,C];exact k1
     have j:=run_build (P:=P) w t (ps.map fun x=>(x.1,a.eval x.2)) cells (by simpa using hb);exact an h (v:= .agg cells) (by simp [execOp,ho,j]) hd (hn d hd) (x:= .agg cs) ⟨cells.toList,by simp,k2,k3⟩ hk
    ·cases r
   ·cases hi
  ·cases hi
 ·cases hi
theorem uX {esz:Nat}: ∀{n:Nat} {cs:List AV} {l:List (List AV)},FH esz n cs=some l→cs.length=n*esz∧l.length=n∧ ∀(i:Nat) (c:List AV),l[i]? =some c→c=((cs.drop (i*esz)).take esz).map AV.plain∧c.length=esz
 |0,[],l,h=>by cases h;exact ⟨by simp,rfl,fun i c p=>by simp at p⟩
 |0,_::_,l,h=>by cases h
 |n+1,cs,l,h=>by
  unfold FH at h;split at h
  ·rename_i c C I J
   split at h
   ·rename_i r hr
    cases h;obtain ⟨P,a2⟩:=oe I;obtain ⟨j,b2⟩:=de J;obtain ⟨R,c2,c3⟩:=uX hr;refine ⟨?_,by simp [c2],fun i c' g=> ?_⟩
    ·rw [j,gA6] at R
     rw [gC3];omega
    ·cases i with
     |zero=>simp at g;subst g;exact ⟨by rw [P];simp,by simp [a2]⟩
     |succ i=>
      obtain ⟨T,U⟩:=c3 i c' (by simpa using g);refine ⟨?_,U⟩;rw [T,j,List.drop_drop,gC3,Nat.one_mul,Nat.add_comm]
   ·cases h
  ·cases h
theorem Conc.newrow (h:Conc E G fr st a w) (vs:Array Value) (t:TypeId):Conc E {G with σ:=fun b q=>if b=w.heap.size then vs[q]? else G.σ b q} fr st a (w.alloc (.cells vs t)):=by
 refine h.world ((Below.refl _ _).alloc (gA4 _) _) ⟨fun b q v g=> ?_,fun b q hb=>if_neg (by omega)⟩ fun b q v g=> ?_
 ·have:b≠w.heap.size:=fun e=>by rw [e,h.fresh] at g;cases g
  simp only [if_neg this];exact g
 ·split at g
  ·rename_i e
   subst e;rw [World.cell?_alloc_at _ _ _ _ rfl];exact g
  ·have i:=h.hold b q v g
   rw [World.cell?_alloc_lt w _ _ (World.block_lt_of_cell? w _ i)];exact i
theorem Conc.newrow_le (h:Conc E G fr st a w) (vs:Array Value):G.σ.le fun b q=>if b=w.heap.size then vs[q]? else G.σ b q:=fun b q v g=>by
 have:b≠w.heap.size:=fun e=>by rw [e,h.fresh] at g;cases g
 simp only [if_neg this];exact g
theorem uY (z:List AV): ∀(n j:Nat),(List.replicate n z).flatten[j]? =if j<n*z.length then z[j%z.length]? else none
 |0,j=>by simp
 |n+1,j=>by
  rw [List.replicate_succ,List.flatten_cons];by_cases g:j<z.length
  ·rw [gC1 g,if_pos (by rw [gC3];omega),Nat.mod_eq_of_lt g]
  ·rw [gC2 (by omega),uY z n]
   rw [Nat.mod_eq_sub_mod (show j≥z.length by omega)];by_cases i:j-z.length<n*z.length
   ·rw [if_pos i,if_pos (by rw [gC3];omega)]
   ·rw [if_neg i,if_neg (by rw [gC3];omega)]
theorem GP {I:Array Value} {z:List AV} (i:RelL G.σ I.toList (z.map AV.unown)) (J:TagsOk G I.toList z) (n size:Nat) (hsz:z.length=size) (R:0<size) (u:Array Value) (P:u.size=n*size) (T: ∀j,j<n*size→u[j]? =I[j%size]?):
  RelL G.σ u.toList (((List.replicate n z).flatten).map AV.unown)∧TagsOk G u.toList (List.replicate n z).flatten:=by
 subst hsz;have U:I.size=z.length:=by simpa using i.1
 refine ⟨⟨by simp [P,List.length_flatten],fun j v c p g=> ?_⟩,fun j v c p g=> ?_⟩
 ·rw [gA8,uY] at g
  have r:j<n*z.length:=by
   have:=(gA0 p).1;simp [P] at this;exact this
  rw [if_pos r] at g;have C:u[j]? =some v:=by simpa using p
  rw [T j r] at C;exact i.2 (j%z.length) v c (by simpa using C) (by rw [gA8];exact g)
 ·rw [uY] at g
  have r:j<n*z.length:=by
   have:=(gA0 p).1;simp [P] at this;exact this
  rw [if_pos r] at g;have C:u[j]? =some v:=by simpa using p
  rw [T j r] at C;exact J (j%z.length) v c (by simpa using C) g
theorem K1 (h:Conc E G fr st a w) {t:TypeId} {n:Nat} {ps:Array (Nat×Operand)} (ho:o.op= .buildSlice t n ps) (hi:aW P mu gs o=some i) (hs:aj P i rs fr st=some (fr',st',p)) (hn: ∀d,o.dst=some d→d<E.n) (hk:Then E fr' st' K):o.wp P a w K Q:=by
 unfold aW at hi;rw [ho] at hi;simp only at hi;split at hi
 ·rename_i d e hd hu
  split at hi
  ·rename_i g z C hz
   split at hi
   ·rename_i hcond
    obtain ⟨hpos,hbig,hzl⟩:=hcond;split at hi
    ·rename_i l hl
     cases hi;simp only [aj] at hs;split at hs
     ·rename_i cs hcs
      split at hs
      ·rename_i rows hrows
       cases hs;obtain ⟨inf',T,I,hzv,hz1,hz2⟩:=Bu (G:=G) hz;rw [C] at I;cases I
       have U:T.cells.size=g.size:=by
        have:T.cells.toList.length=z.length:=by simpa using hz1.1
        simp at this;omega
       generalize r:((Array.range (n*g.size)).map ((if n*g.size=0 then (#[]:Array Value) else T.cells)[· %(if n*g.size=0 then (#[]:Array Value) else T.cells).size]!))=u0;have hus:u0.size=n*g.size:=by rw [←r];simp
       have huc: ∀j,j<n*g.size→u0[j]? =T.cells[j%g.size]? :=by
        intro j hj;have hne: ¬n*g.size=0:=by omega
        rw [←r,if_neg hne];have R:j%T.cells.size<T.cells.size:=Nat.mod_lt _ (by omega);rw [Array.getElem?_map,Array.getElem?_range,if_pos hj];simp only [Option.map_some,U];rw [U] at R;rw [getElem!_pos T.cells _ (by omega),Array.getElem?_eq_getElem (by omega)]
       obtain ⟨zr1,zr2⟩:=GP hz1 hz2 n g.size hzl hpos u0 hus huc;obtain ⟨cells,k1,k2,k3⟩:=uW h (place' :=fun i=>some (i*g.size,g.size)) (fun i off size t' hp=>by cases hp;rfl) hl hcs zr1 zr2
       have hrun:(Instr.buildSlice t n (ps.map fun x=>(x.1,a.eval x.2))).run P w= .ok (.slice (some ⟨w.heap.size,0,none⟩) n n) (w.alloc (.cells cells e)):=by
        have hb2: ¬n*g.size>2^24:=by omega
        have J:Instr.fill (fun i=>some (i*g.size,g.size)) u0 (ps.map fun x=>(x.1,a.eval x.2)).toList=some cells:=by simpa using k1
        by_cases h0:n*g.size=0
        ·rw [if_pos h0] at r
         rw [←r] at J;simp only [Instr.buildSlice,Sem.run_bind,run_underlying hu,Result.andThen_ok,sizeOf,typeInfo,run_program,C,Sem.run_pure,if_neg hb2,h0,if_true];rw [h0] at J;rw [if_neg (by omega)];simp only [Sem.run_bind,Sem.run_pure,Result.andThen_ok];rw [J];simp [newRow]
        ·rw [if_neg h0] at r
         rw [←r] at J;simp only [Instr.buildSlice,Sem.run_bind,run_underlying hu,Result.andThen_ok,sizeOf,typeInfo,zeroValue,run_program,C,hzv,Sem.run_pure,if_neg hb2,if_neg h0];rw [J];simp [newRow]
       obtain ⟨c1,c2,c3⟩:=uX hrows;unfold Oper.wp;have hrun2:(execOp a.eval o).run P w= .ok (.value (.slice (some ⟨w.heap.size,0,none⟩) n n)) (w.alloc (.cells cells e)):=by simp [execOp,ho,hrun]
       rw [hrun2,Oper.upon_value,hd];refine hk _ _ _ ((h.newrow cells e).put (hn d hd) (RelS.of1 ?_))
       have hcl:cells.size=n*g.size:=by
        have:cells.toList.length=cs.length:=by simpa using k2.1
        simpa [c1] using this
       refine .lst .full g.size rows _ n n w.heap.size 0 (fun i j=>cells.getD (i*g.size+j) undef) c2.symm (gA4 _) (fun _=>rfl) (fun i c hc=>(c3 i c hc).2) (fun i j hi hj=> ?_) (fun i j c x hc hx=> ?_) rfl
       ·have R:i*g.size+j<cells.size:=by
         have:(i+1)*g.size≤n*g.size:=Nat.mul_le_mul_right _ hi;rw [gC3] at this;omega
        simp only [if_true,Nat.zero_add];rw [Array.getElem?_eq_getElem R,Array.getD,dif_pos R];rfl
       ·obtain ⟨d1,d2⟩:=c3 i c hc
        rw [d1,gA8,List.getElem?_take] at hx;split at hx
        ·rw [List.getElem?_drop] at hx
         cases hq:cs[i*g.size+j]? with
         |none=>rw [hq] at hx;cases hx
         |some c0=>
          rw [hq] at hx;cases hx;obtain ⟨v,hv1,hv2⟩:=k2.at_ (j:=i*g.size+j) (a:=c0.unown) (by rw [gA8,hq];rfl)
          have hv3:cells.getD (i*g.size+j) undef=v:=by
           have:cells[i*g.size+j]? =some v:=by simpa using hv1
           simp [Array.getD_eq_getD_getElem?,this]
          simp only [hv3];have:=(hv2.mono (h.newrow_le cells)).plain;rw [cD] at this;exact this
        ·cases hx
      ·cases hs
     ·cases hs
    ·cases hi
   ·cases hi
  ·cases hi
 ·cases hi
end
end
section
open Go.RowKit
section
variable {P:Program} {mu:List Nat} {E:Env} {G:Gho} {fr fr' :Fr} {st st' :St} {a:Act} {w:World} {o:Oper} {K:Act→World→Prop} {Q:Exit→Act→World→Prop} {p:Prop} {rs:Option RS} {i:AI} {gs:Bool}
theorem Conc.freezeBox (h:Conc E G fr st a w) {id g:Nat} {cs:List AV} {fz:Bool} (hb:st.box id=some (cs,fz)) (hmp:cC id=false) (J:G.B id=some g):
  ∃σ' :Sg,G.σ.le σ' ∧Conc E {G with σ:=σ' } fr {st with box:=upd st.box id (some (cs,true))} a w∧ ∃vs:List Value,RelL σ' vs (cs.map AV.plain)∧ ∀(j:Nat) v,vs[j]? =some v→σ' g j=some v:=by
 obtain ⟨g',P,R,ty,vs,hg,T,htg,hfz⟩:=h.box id cs fz hb;replace hg:=hg.cells hmp;rw [J] at P;cases P
 have p:G.σ.le fun b q=>if b=g then vs[q]? else G.σ b q:=fun b q v C=>by
  by_cases e:b=g
  ·subst e
   simp only [if_true];cases fz with
   |false=>have:=hfz q;rw [C] at this;cases this
   |true=>
    have h1:=h.hold _ _ _ C;rw [cell_of_row w b q vs ty (0,0) hg] at h1;exact h1
  ·simp only [if_neg e];exact C
 have hG:G.le {G with σ:=fun b q=>if b=g then vs[q]? else G.σ b q}:=⟨p,fun _ _ _ h=>h,fun _ _ h=>h,fun _ _ _ h=>h⟩
 refine ⟨_,p,?_,vs.toList,?_,fun j v C=>by simpa using C⟩
 ·exact
  { defers:=h.defers
    size:=h.size
    slots:=fun s x hs=>(h.slots s x hs).mono hG fun _ _ _ _ hg=>hg
    hold:=fun b q v C=>by
     simp only at C;split at C
     ·rename_i e
      subst e;rw [cell_of_row w b q vs ty (0,0) hg];exact C
     ·exact h.hold b q v C
    ext:=⟨h.ext.1.trans p,fun b q hbq U=>by
     simp only
     rw [if_neg (fun e=>by rcases R with hg1|hg1; ·omega
                           ·exact U (e▸hg1))]
     exact h.ext.2 b q hbq U⟩
    below:=h.below
    box:=fun id' cs' fz' i=>by
     simp only at i;rw [ax] at i;split at i
     ·rename_i e
      cases i;subst e;exact ⟨g,J,R,ty,vs,.mk hmp (h.notMap hb J hg).2 hg,T.mono p,htg.mono hG,fun j v C=>by simp only [if_true];exact C⟩
     ·rename_i e
      obtain ⟨g2,k1,k2,t2,vs2,k3,k4,k5,k6⟩:=h.box id' cs' fz' i;have I:g2≠g:=fun e' =>e (h.binj id' id g (e' ▸k1) J)
      refine ⟨g2,k1,k2,t2,vs2,k3,k4.mono p,k5.mono hG,?_⟩;cases fz' with
      |true=>exact fun j v C=>p _ _ _ (k6 j v C)
      |false=>exact fun j=>by simp only [if_neg I];exact k6 j
    bnone:=fun id' i=>by
     simp only at i;rw [ax] at i;split at i
     ·cases i
     ·exact h.bnone id' i
    binj:=h.binj
    row:=fun s r i=>by
     obtain ⟨⟨k1,e,cur,k3,k4,k5,k8⟩,k9⟩:=h.row s r i;have I:r.g≠g:=fun e' =>k9 id (e' ▸J)
     exact ⟨⟨k1,e,cur,k3,k4,k5,fun j hj=>by simp only [if_neg I];exact k8 j hj⟩,k9⟩
    rinj:=h.rinj
    rlt:=h.rlt
    phi:=fun k x hk=>by
     obtain ⟨⟨h1,h2⟩,h3,h4⟩:=h.phi k x hk;have I:x.g≠g:=fun e' =>h3 id (e' ▸J)
     exact ⟨⟨h1,h2.on p rfl fun j=>by simp only [if_neg I];exact h2.free j⟩,h3,h4⟩
    phinj:=h.phinj
    pnone:=h.pnone
    small:=h.small
    keep:=h.keep}
 ·have:=(T.mono p).plain
  rw [List.map_map,show (AV.plain∘AV.unown)=AV.plain from funext cD] at this;exact this
theorem og: ∀{xs:List Operand} {ys:List Opd} {G:Gho} {st st' :St} {cs:List AV},Conc E G fr st a w→(∀ts:List TypeId,True)→bS P xs []=some ys→freeze st fr ys=some (cs,st')→
  ∃σ' :Sg,G.σ.le σ' ∧Conc E {G with σ:=σ' } fr st' a w∧RelL σ' (xs.map a.eval) cs
 | [],ys,G,st,st',cs,h,_,R,i=>by
  cases R;cases i;exact ⟨G.σ,Sg.le.refl _,h,.nil⟩
 |x::xs,ys,G,st,st',cs,h,_,R,i=>by
  unfold bS at R;split at R
  ·rename_i y ys' hy T
   cases R;unfold freeze at i;split at i
   ·rename_i id off hv
    split at i
    ·rename_i cs0 fz hb
     split at i
     ·rename_i cs' hdr
      split at i
      ·rename_i r st2 hr
       cases i;obtain ⟨g,hB,hpv,_⟩:=h.ev hy hv;obtain ⟨σ1,U,hC1,vs,hvs,hσ⟩:=h.freezeBox (az hb).1 (az hb).2 hB;obtain ⟨σ2,p,C,I⟩:=og hC1 (fun _=>trivial) T hr;obtain ⟨d1,d2⟩:=de hdr;refine ⟨σ2,U.trans p,C,.cons ?_ I⟩;rw [hpv];have J:=(hvs.drop off).mono p;rw [←List.map_drop,←d1] at J;refine .ro _ g off (fun j=>(vs.drop off).getD j undef) (fun j hj=> ?_) fun j c hc=> ?_
       ·have hj' :j<(vs.drop off).length:=by rw [J.1];exact hj
        have h3:(vs.drop off)[j]? =some ((vs.drop off)[j]):=gA1 hj';rw [List.getD,h3];rw [List.getElem?_drop] at h3;exact p _ _ _ (hσ _ _ h3)
       ·obtain ⟨v,hv1,hv2⟩:=J.at_ hc
        rw [List.getD,hv1];exact hv2
      ·cases i
     ·cases i
    ·cases i
   ·cases i
   ·cases i
   ·cases i
   ·cases i
   ·cases i
   ·cases i
   ·rename_i c hn1 hn2 hn3 hn4 hn5 hn6 hn7 hc
    split at i
    ·rename_i r st2 hr
     cases i;obtain ⟨σ2,p,C,I⟩:=og h (fun _=>trivial) T hr;refine ⟨σ2,p,C,.cons ?_ I⟩;have h0:=h.ev hy hc
     have key:Rel1 G.σ (a.eval x) c.plain:=by
      cases c<;>first
       |(have:=h0.1.plain;rw [cD] at this;exact this)
       |exact absurd rfl (hn1 _ _)
       |exact absurd rfl (hn2 _)
       |exact absurd rfl (hn3 _)
       |exact absurd rfl (hn4 _ _)
       |exact absurd rfl (hn5 _ _ _ _ _)
       |exact absurd rfl (hn6 _ _ _ _)
       |exact absurd rfl (hn7 _ _ _)
     exact key.mono p
    ·cases i
   ·cases i
  ·cases R
theorem IW (h:Conc E G fr st a w) {fn:Fn} {first cap:Array Operand} (ho:o.op= .makeFunc fn first cap) (hi:aW P mu gs o=some i) (I:aj P i rs fr st=some (fr',st',p)) (hn: ∀d,o.dst=some d→d<E.n) (hk:Then E fr' st' K):o.wp P a w K Q:=by
 unfold aW at hi;rw [ho] at hi;cases fn with
 |func f=>
  simp only at hi;split at hi
  ·rename_i d ys hd J R
   cases hi;simp only [aj] at I;split at I
   ·rename_i cs st2 T
    cases I;obtain ⟨σ2,hle,hC,r⟩:=og h (fun _=>trivial) J T;have g:first= #[]:=Array.size_eq_zero_iff.1 R
    have C:(execOp a.eval o).run P w= .ok (.value (.func (.func f) #[] (cap.toList.map a.eval).toArray)) w:=by
     simp [execOp,ho,Instr.makeFunc,g];exact Array.ext' (by simp)
    unfold Oper.wp;rw [C,Oper.upon_value,hd];refine hk _ _ _ (hC.put (hn d hd) (RelS.of1 (.fn f cs _ r.1 (fun j=>(cap.toList.map a.eval).getD j undef) (fun j v hv=>by rw [List.getD,hv];rfl) fun j c hc=> ?_)));obtain ⟨v,U,hv2⟩:=r.at_ hc;rw [List.getD,U];exact hv2
   ·cases I
  ·cases hi
 |method m=>cases hi
 |methodOf t m=>cases hi
 |via t p f b=>cases hi
 |yield l=>cases hi
theorem yF {isSlice:Bool} {x:Operand} {y:Opd} (h:Conc E G fr st a w) (hy:be P 0 x=some y) {n:Int} {k:IntKind} (g:y.ev fr=some (.int k n)) (m:Nat) (code:BoundsCode) (i:0≤n) (j:n≤m):(Instr.sliceBound (a.eval x) m code).run P w= .ok n.toNat w:=by
 rw [(h.ev hy g).int];exact run_sliceBound w k n m code i j
theorem uZ (h:Conc E G fr st a w) (isSlice:Bool) (len cap:Nat) (R:len≤cap) {lo hi:Option Operand} {p r:Option Opd} (hl:qp P lo=some p) (i:qp P hi=some r) {x y:Int} (j:cw fr 0 p=some x) (hy:cw fr len r=some y)
  (T:0≤x) (U:x≤y) (h2:y≤len):(Instr.sliceBounds isSlice len cap (lo.map a.eval) (hi.map a.eval) none).run P w= .ok (x.toNat,y.toNat,cap) w:=by
 have high: ∀code,(match hi.map a.eval with|some v=>Instr.sliceBound v cap code|none=>pure len:Sem Nat).run P w= .ok y.toNat w:=by
  intro code;cases hi with
  |none=>
   cases i;simp only [cw,gB9] at hy;subst hy;simp
  |some v=>
   unfold qp at i;simp only at i;split at i
   ·rename_i z I
    cases i;simp only [cw] at hy;split at hy
    ·rename_i k n J
     cases hy;exact yF (isSlice:=isSlice) h I J cap code (by omega) (by omega)
    ·cases hy
   ·cases i
 have low: ∀code,(match lo.map a.eval with|some v=>Instr.sliceBound v y.toNat code|none=>pure 0:Sem Nat).run P w= .ok x.toNat w:=by
  intro code;cases lo with
  |none=>
   cases hl;simp only [cw,gB9] at j;subst j;simp
  |some v=>
   unfold qp at hl;simp only at hl;split at hl
   ·rename_i z I
    cases hl;simp only [cw] at j;split at j
    ·rename_i k n J
     cases j;exact yF (isSlice:=isSlice) h I J y.toNat code (by omega) (by omega)
    ·cases j
   ·cases hl
 have C:=high (if isSlice then .sliceAcap else .sliceAlen);have g:=low .sliceB;unfold Instr.sliceBounds;simp only [Sem.run_bind,Sem.run_pure,Result.andThen_ok];cases hi with
 |none=>
  simp only [Option.map_none] at C⊢;rw [Sem.run_bind,C];simp only [Result.andThen_ok];cases lo with
  |none=>simp only [Option.map_none] at g⊢;rw [Sem.run_bind,g];rfl
  |some v=>simp only [Option.map_some,Option.isSome_none,Bool.false_eq_true,if_false] at g⊢;rw [Sem.run_bind,g];rfl
 |some u=>
  simp only [Option.map_some] at C⊢;rw [Sem.run_bind,C];simp only [Result.andThen_ok];cases lo with
  |none=>simp only [Option.map_none] at g⊢;rw [Sem.run_bind,g];rfl
  |some v=>simp only [Option.map_some,Option.isSome_none,Bool.false_eq_true,if_false] at g⊢;rw [Sem.run_bind,g];rfl
theorem K2 (h:Conc E G fr st a w) {t:TypeId} {x:Operand} {lo hi mx:Option Operand} (ho:o.op= .slice t x lo hi mx) (g:aW P mu gs o=some i) (r:aj P i rs fr st=some (fr',st',p)) (hp:p) (hn: ∀d,o.dst=some d→d<E.n) (hk:Then E fr' st' K):o.wp P a w K Q:=by
 unfold aW at g;rw [ho] at g;cases mx with
 |some m=>cases g
 |none=>
  simp only at g;split at g
  ·rename_i d x' lo' hh' hd hx J R hu
   cases g;simp only [aj] at r;split at r
   ·rename_i s heq T
    split at r
    ·rename_i u v U hv1
     cases r;obtain ⟨h0,h1,h2⟩:=hp;have hsv:=(h.ev hx T).str;have hb:=uZ h false s.size s.size (gA4 _) J R U hv1 h0 h1 h2
     have C:(execOp a.eval o).run P w= .ok (.value (.string (s.extract u.toNat v.toNat))) w:=by
      simp only [execOp,ho,hsv,Instr.sliceAt,Instr.slice,Sem.run_bind,run_underlying hu,Result.andThen_ok,Option.map_none,Option.isSome_none,Bool.false_eq_true,if_false,hb,Sem.run_pure]
     exact an h C hd (hn d hd) (x:= .str (s.extract u.toNat v.toNat)) ⟨.str _,trivial⟩ hk
    ·cases r
   ·rename_i heq _;cases heq
   ·cases r
  ·rename_i d x' lo' hh' e hd hx J R hu
   split at g
   ·rename_i I hinf
    split at g
    ·rename_i hpos
     cases g;simp only [aj] at r;split at r
     ·rename_i heq _;cases heq
     ·rename_i tg esz l heq T
      split at r
      ·rename_i u v U hv1
       cases r;obtain ⟨he,h0,h1,h2⟩:=hp;subst he;obtain ⟨A,cap,b,q,f,hv,q2,q3,q4,q5,q6,_⟩:=cN (h.ev hx T);have hb:=uZ h true l.length cap q2 J R U hv1 h0 h1 h2;have hsz:(sizeOf e).run P w= .ok I.size w:=by simp [sizeOf,typeInfo,hinf]
       have C:(execOp a.eval o).run P w= .ok (.value (.slice (if cap=u.toNat then A else A.map (·.add (u.toNat*I.size))) (v.toNat-u.toNat) (cap-u.toNat))) w:=by
        simp only [execOp,ho,hv,Instr.sliceAt,Instr.slice,Sem.run_bind,run_underlying hu,Result.andThen_ok,Option.map_none,hb,hsz,Sem.run_pure]
       have hlen:((l.take v.toNat).drop u.toNat).length=v.toNat-u.toNat:=by rw [gA6,gA7];omega
       have hat: ∀i,i<v.toNat-u.toNat→((l.take v.toNat).drop u.toNat)[i]? =l[u.toNat+i]? :=fun i hi=>by
        rw [List.getElem?_drop,List.getElem?_take,if_pos (by omega)]
       refine an h C hd (hn d hd) (x:= .lst .any I.size ((l.take v.toNat).drop u.toNat)) (RelS.of1 (.lst .any I.size _ _ _ _ b (q+u.toNat*I.size) (fun i j=>f (u.toNat+i) j) hlen.symm (by omega) (fun hpos2=> ?_) (fun i c hc=> ?_) (fun i j hi hj=> ?_) (fun i j c x hc hx' => ?_) trivial)) hk
       ·rw [if_neg (by omega),q3 (by omega)]
        simp [Addr.add_lit]
       ·have hi2:i<v.toNat-u.toNat:=by rw [←hlen];exact (gA0 hc).1
        rw [hat i hi2] at hc;exact q4 _ _ hc
       ·have:=q5 (u.toNat+i) j (by omega) hj
        rw [gC3] at this;rw [←this];congr 1;omega
       ·have hi2:i<v.toNat-u.toNat:=by rw [←hlen];exact (gA0 hc).1
        rw [hat i hi2] at hc;exact q6 _ _ _ _ hc hx'
      ·cases r
     ·cases r
    ·cases g
   ·cases g
  ·cases g
end
end
section
open Go.RowKit
section
variable {P:Program} {mu:List Nat} {E:Env} {G:Gho} {fr fr' :Fr} {st st' :St} {a:Act} {w:World} {o:Oper} {K:Act→World→Prop} {Q:Exit→Act→World→Prop} {p:Prop} {rs:Option RS} {i:AI} {gs:Bool}
def c8 (n esz:Nat) (f:Nat→Nat→Value):List Value:=(List.range (n*esz)).map fun q=>f (q / esz) (q%esz)
theorem cx (n esz:Nat) (f:Nat→Nat→Value):(c8 n esz f).length=n*esz:=by simp [c8]
theorem iX {n esz:Nat} (f:Nat→Nat→Value) {q:Nat} (h:q<n*esz):(c8 n esz f)[q]? =some (f (q / esz) (q%esz)):=by
 simp [c8,h]
theorem qw {n esz:Nat} (f:Nat→Nat→Value) {i j:Nat} (hi:i<n) (g:j<esz):(c8 n esz f)[i*esz+j]? =some (f i j):=by
 have p:i*esz+j<n*esz:=by
  have:(i+1)*esz≤n*esz:=Nat.mul_le_mul_right _ hi;rw [gC3] at this;omega
 rw [iX f p]
 have r:(i*esz+j) / esz=i:=by
  rw [Nat.mul_comm,Nat.mul_add_div (by omega),Nat.div_eq_of_lt g,Nat.add_zero]
 have C:(i*esz+j)%esz=j:=by
  rw [Nat.mul_comm,Nat.mul_add_mod,Nat.mod_eq_of_lt g]
 rw [r,C]
theorem il {σ:Sg} {n esz b p:Nat} {f:Nat→Nat→Value} (C: ∀i j,i<n→j<esz→σ b (p+i*esz+j)=some (f i j)): ∀(q:Nat) v,(c8 n esz f)[q]? =some v→σ b (p+q)=some v:=by
 intro q v g;have r:q<n*esz:=by have:=(gA0 g).1;rwa [cx] at this
 have I:0<esz:=by
  rcases Nat.eq_zero_or_pos esz with h|h
  ·subst h;omega
  ·exact h
 rw [iX f r] at g;cases g;have J:q / esz<n:=Nat.div_lt_of_lt_mul (by rw [Nat.mul_comm];exact r);have P:=C (q / esz) (q%esz) J (Nat.mod_lt _ I);rw [←P];congr 1;have:=Nat.div_add_mod q esz;rw [Nat.mul_comm] at this;omega
theorem Conc.bump (h:Conc E G fr st a w) (s:Nat):Conc E G fr {st with row:=upd st.row s (st.row s+1)} a w:=
 { h with
   row:=fun s' r g=>by
    simp only at g;rw [ax] at g;split at g
    ·rename_i e;subst e;have:=h.rlt _ _ _ g;omega
    ·exact h.row s' r g
   rinj:=fun p C I J i j hg=>by
    simp only at i j;rw [ax] at i j;split at i
    ·rename_i e;subst e;have:=h.rlt _ _ _ i;omega
    ·split at j
     ·rename_i e;subst e;have:=h.rlt _ _ _ j;omega
     ·exact h.rinj p C I J i j hg
   rlt:=fun s' v x g=>by
    have:=h.rlt s' v x g;simp only;rw [ax];split
    ·rename_i e;subst e;omega
    ·exact this
   phi:=fun k x P=>by
    obtain ⟨i,j,R⟩:=h.phi k x P;refine ⟨i,j,fun s' r g=> ?_⟩;simp only at g;rw [ax] at g;split at g
    ·rename_i e;subst e;have:=h.rlt _ _ _ g;omega
    ·exact R s' r g}
def ρset (ρ:Nat→Nat→Option RowI) (s v:Nat) (r:RowI):Nat→Nat→Option RowI:=fun s' g=>if s' =s∧g=v then some r else ρ s' g
theorem Conc.claim (h:Conc E G fr st a w) {s:Nat} (C:G.ρ s (st.row s)=none) {r:RowI} (hr:II E G w r) (U: ∀id,G.B id≠some r.g) (I: ∀s' r',G.ρ s' (st.row s')=some r' →r'.g≠r.g) (hφ: ∀k x,G.φ k=some x→x.g≠r.g):
  Conc E {G with ρ:=ρset G.ρ s (st.row s) r} fr st a w:=
 have J:G.le {G with ρ:=ρset G.ρ s (st.row s) r}:=⟨Sg.le.refl _,fun s' v x P=>by
  simp only [ρset];rw [if_neg (fun e=>by rw [e.1,e.2,C] at P;cases P)];exact P,fun _ _ h=>h,fun _ _ _ h=>h⟩
 { defers:=h.defers
   size:=h.size
   slots:=fun s' x i=>(h.slots s' x i).mono J fun _ _ _ _ hg=>hg
   hold:=h.hold
   ext:=h.ext
   below:=h.below
   box:=fun id cs fz i=>by
    obtain ⟨g,p,j,t,vs,R,h4,h5,h6⟩:=h.box id cs fz i;exact ⟨g,p,j,t,vs,R,h4,h5.mono J,h6⟩
   bnone:=h.bnone
   binj:=h.binj
   row:=fun s' r' i=>by
    simp only [ρset] at i;split at i
    ·cases i;exact ⟨hr,U⟩
    ·exact h.row s' r' i
   rinj:=fun s1 s2 r1 r2 p j hg=>by
    simp only [ρset] at p j;split at p
    ·rename_i e1
     split at j
     ·rename_i e2;rw [e1.1,e2.1]
     ·cases p;exact absurd hg.symm (I _ _ j)
    ·split at j
     ·cases j;exact absurd hg (I _ _ p)
     ·exact h.rinj s1 s2 r1 r2 p j hg
   rlt:=fun s' v x i=>by
    simp only [ρset] at i;split at i
    ·rename_i e;rw [e.1,e.2];exact gA4 _
    ·exact h.rlt s' v x i
   phi:=fun k x T=>by
    obtain ⟨p,j,R⟩:=h.phi k x T;refine ⟨p,j,fun s' r' i=> ?_⟩;simp only [ρset] at i;split at i
    ·cases i;exact fun e=>hφ k x T e.symm
    ·exact R s' r' i
   phinj:=h.phinj
   pnone:=h.pnone
   small:=h.small
   keep:=h.keep}
theorem Conc.commit (h:Conc E G fr st a w) {g:Nat} {P new:Array Value} {e:TypeId} (R:E.own g) (hg:w.heap[g]? =some (.cells P e (0,0))) (hB: ∀id,G.B id≠some g) (hne: ∀s' r',G.ρ s' (st.row s')=some r' →r'.g≠g) (hφ: ∀k x,G.φ k=some x→x.g≠g)
  {σ' :Sg} (C:G.σ.le σ') (i: ∀b q,b≠g→σ' b q=G.σ b q) (T: ∀q v,σ' g q=some v→new[q]? =some v):
  Conc E {G with σ:=σ' } fr st a (w.setRow g new):=
 have hG:G.le {G with σ:=σ' }:=⟨C,fun _ _ _ h=>h,fun _ _ h=>h,fun _ _ _ h=>h⟩
 { defers:=h.defers
   size:=h.size
   slots:=fun s x I=>(h.slots s x I).mono hG fun _ _ _ _ hg=>hg
   hold:=fun b q v hv=>by
    by_cases hb:b=g
    ·subst hb
     rw [cell_setRow_same w b q P new e (0,0) hg];exact T q v hv
    ·rw [cell_setRow_other w g new ⟨b,q,none⟩ hb]
     exact h.hold b q v (by rw [←i b q hb];exact hv)
   ext:=⟨h.ext.1.trans C,fun b q hb U=>by
    have hbg:b≠g:=fun e=>by
     rcases R with hg1|hg1
     ·omega
     ·exact U (e▸hg1)
    rw [show ({G with σ:=σ' }:Gho).σ b q=σ' b q from rfl,i b q hbg];exact h.ext.2 b q hb U⟩
   below:=yy h.below R
   box:=fun id cs fz I=>by
    obtain ⟨J,k1,k2,t2,vs2,k3,k4,k5,k6⟩:=h.box id cs fz I;have p:J≠g:=fun e' =>hB id (e' ▸k1)
    refine ⟨J,k1,k2,t2,vs2,k3.of (setRow_other w g J _ p),k4.mono C,k5.mono hG,?_⟩;cases fz with
    |true=>exact fun j v hv=>C _ _ _ (k6 j v hv)
    |false=>exact fun j=>by rw [show ({G with σ:=σ' }:Gho).σ J j=σ' J j from rfl,i J j p];exact k6 j
   bnone:=h.bnone
   binj:=h.binj
   row:=fun s r I=>by
    obtain ⟨⟨k1,e2,cur2,k3,k4,k5,k8⟩,k9⟩:=h.row s r I;have p:=hne s r I;exact ⟨⟨k1,e2,cur2,by rw [setRow_other w g r.g _ p];exact k3,k4,k5,fun j hj=>by rw [show ({G with σ:=σ' }:Gho).σ r.g j=σ' r.g j from rfl,i r.g j p];exact k8 j hj⟩,k9⟩
   rinj:=h.rinj
   rlt:=h.rlt
   phi:=fun k x hk=>by
    obtain ⟨⟨h1,h2⟩,h3,h4⟩:=h.phi k x hk;have p:=hφ k x hk;exact ⟨⟨h1,h2.on C (setRow_other w g x.g _ p) fun j=>by rw [show ({G with σ:=σ' }:Gho).σ x.g j=σ' x.g j from rfl,i x.g j p];exact h2.free j⟩,h3,h4⟩
   phinj:=h.phinj
   pnone:=h.pnone
   small:=h.small
   keep:=h.keep}
theorem cOz (w:World) (t ty e:TypeId) {g:TypeInfo} (ht:P.underlying t=some (.slice e)) (hi:P.info? e=some g) (A j:Option Addr) (n cap c2:Nat) (i:n≤cap):
  (Builtin.append_ #[t,t] ty #[.slice A n cap,.slice j 0 c2]).run P w= .ok (.slice A n cap) w:=by
 cases A<;>cases j<;>simp [Builtin.append_,run_underlying ht,sizeOf,typeInfo,hi,Builtin.lenOf,Builtin.firstCells,i,storeCells,loadCells,loadCellsFrom]
theorem u6 {σ:Sg} {esz:Nat} {l m:List (List AV)} {f f2:Nat→Nat→Value} (P: ∀(i:Nat) (c:List AV),l[i]? =some c→c.length=esz) (R: ∀(i:Nat) (c:List AV),m[i]? =some c→c.length=esz)
  (T: ∀(i j:Nat) (c:List AV) (x:AV),l[i]? =some c→c[j]? =some x→Rel1 σ (f i j) x) (U: ∀(i j:Nat) (c:List AV) (x:AV),m[i]? =some c→c[j]? =some x→Rel1 σ (f2 i j) x)
  {g cap:Nat} (C:l.length+m.length≤cap) (s1: ∀i j,i<l.length→j<esz→σ g (i*esz+j)=some (f i j)) (s2: ∀i j,i<m.length→j<esz→σ g ((l.length+i)*esz+j)=some (f2 i j)):
  Rel1 σ (.slice (some ⟨g,0,none⟩) (l.length+m.length) cap) (.lst .any esz (l++m)):=by
 refine .lst .any esz (l++m) _ _ cap g 0 (fun i j=>if i<l.length then f i j else f2 (i-l.length) j) (by simp) C (fun _=>rfl) (fun i c r=> ?_) (fun i j hi I=> ?_) (fun i j c x r J=> ?_) trivial
 ·by_cases hi:i<l.length
  ·rw [gC1 hi] at r;exact P i c r
  ·rw [gC2 (by omega)] at r;exact R _ c r
 ·rw [Nat.zero_add]
  by_cases p:i<l.length
  ·rw [if_pos p];exact s1 i j p I
  ·rw [if_neg p]
   have:=s2 (i-l.length) j (by omega) I;rw [show l.length+(i-l.length)=i by omega] at this;exact this
 ·by_cases p:i<l.length
  ·simp only [if_pos p];rw [gC1 p] at r;exact T i j c x r J
  ·simp only [if_neg p];rw [gC2 (by omega)] at r;exact U _ j c x r J
theorem IX {t:Tag} (d:Nat) (i:d<800000) (h:uH st t): ∃s0,jJ st d t= .own s0 (st.row s0+1)∧jK st d t=upd st.row s0 (st.row s0+1)∧(∀s v,t= .own s v→s=s0∧v=st.row s0)∧ew s0=false:=by
 cases t with
 |own s v=>
  have g:(st.row s,ew s)=(v,false):=h;obtain ⟨g,p⟩:=Prod.mk.inj g;subst g;exact ⟨s,rfl,rfl,fun s' j e=>by cases e;exact ⟨rfl,rfl⟩,p⟩
 |nil=>exact ⟨d,rfl,rfl,fun s' j e=>(by cases e),pf i⟩
 |full=>exact ⟨d,rfl,rfl,fun s' j e=>(by cases e),pf i⟩
 |any=>exact h.elim
theorem Conc.appEnd {σ' :Sg} {w' :World} {s0 d:Nat} (h:Conc E {G with σ:=σ' } fr {st with row:=upd st.row s0 (st.row s0+1)} a w') (J:d<E.n) (hold: ∀x,G.ρ s0 (st.row s0+1)=some x→False) {v:Value} {esz:Nat} {l:List (List AV)} (hr:Rel1 σ' v (.lst .any esz l))
  (j:ew s0=false) (ht:(l.length=0∧ ∃A,v= .slice A l.length l.length)∨ ∃g cap,v= .slice (some ⟨g,0,none⟩) l.length cap∧II E {G with σ:=σ' } w' ⟨g,l.length,esz,cap,ew s0⟩∧(∀id,G.B id≠some g)∧(∀s' r',G.ρ s' (upd st.row s0 (st.row s0+1) s')=some r' →r'.g≠g)∧ ∀k x,G.φ k=some x→x.g≠g):
  ∃G',Conc E G' (aG fr d (.lst (.own s0 (st.row s0+1)) esz l)) {st with row:=upd st.row s0 (st.row s0+1)} (a.put (some d) v) w' :=by
 rcases ht with ⟨P,A,p⟩|⟨g,cap,p,C,R,I,T⟩
 ·exact ⟨_,h.put J ⟨hr,.inl ⟨P,A,p,Bl j⟩⟩⟩
 ·have i:G.ρ s0 (upd st.row s0 (st.row s0+1) s0)=none:=by
   rw [cf];cases U:G.ρ s0 (st.row s0+1) with
   |none=>rfl
   |some x=>exact (hold x U).elim
  have h2:=h.claim (s:=s0) i (r:=⟨g,l.length,esz,cap,ew s0⟩) C R I T;refine ⟨_,h2.put J ⟨hr,.inr ⟨g,cap,p,?_⟩⟩⟩;simp only [ρset,cf];simp
theorem jP {z:Array Value} (r: ∀u∈z.toList,u.oneCell' =true) (n:Nat): ∀u∈(Builtin.zeroCells z n).toList,u.oneCell' =true:=by
 intro u p;simp only [Builtin.zeroCells,Array.toList_map,List.mem_map] at p;obtain ⟨i,hi,rfl⟩:=p;have g:i<n*z.size:=by simpa using hi
 have C:0<z.size:=by
  rcases Nat.eq_zero_or_pos z.size with h|h
  ·rw [h] at g;omega
  ·exact h
 have j:i%z.size<z.size:=Nat.mod_lt _ C;rw [getElem!_pos z _ j];exact r _ (by simp)
theorem D0 (h:Conc E G fr st a w) {e:TypeId} {esz n:Nat} {cells:Array Value} (news:List Value) (i: ∀(q:Nat) v,news[q]? =some v→cells[q]? =some v):
  ∃σ' :Sg,G.σ.le σ' ∧Conc E {G with σ:=σ' } fr st a (w.drew.alloc (.cells cells e))∧(∀(q:Nat) v,news[q]? =some v→σ' w.heap.size q=some v)∧(∀q,news.length≤q→σ' w.heap.size q=none):=by
 have j:Below w.heap.size w (w.drew.alloc (.cells cells e)):=((Below.refl _ _).drew).alloc (gA4 _) _
 have r:G.σ.le fun b q=>if b=w.heap.size then news[q]? else G.σ b q:=fun b q v g=>by
  have:b≠w.heap.size:=fun e=>by rw [e,h.fresh] at g;cases g
  simp only [if_neg this];exact g
 refine ⟨_,r,h.world j ⟨r,fun b q hb=>if_neg (by omega)⟩ fun b q v g=> ?_,fun q v g=>by simp [g],fun q I=>by simp [I]⟩;split at g
 ·rename_i J
  subst J;have C:=World.cell?_alloc_at (w:=w.drew) cells e w.heap.size q rfl;exact C.trans (i q v g)
 ·have C:=h.hold b q v g
  exact (j.cell (p:=⟨b,q,none⟩) (World.block_lt_of_cell? w _ C)).trans C
theorem Rel1.slice_any {σ:Sg} {v:Value} {t:Tag} {esz:Nat} {l:List (List AV)} (h:Rel1 σ v (.lst t esz l)):Rel1 σ v (.lst .any esz l):=h.plain
theorem dx (w:World) (t ty e U:TypeId) (p:TypeInfo) (ht:P.underlying t=some (.slice e)) (hi:P.info? e=some p) (g i r:Nat) (C:Array Value) (hg:w.heap[g]? =some (.cells C U (0,0)))
  (a:Addr) (m c:Nat) (news:List Value) (hl:news.length=m*p.size) (I: ∀(j:Nat) u,news[j]? =some u→w.cell? (a.add j)=some u) (h1: ∀u∈news,u.oneCell' =true) (J:i+m≤r) (R:i*p.size+news.length≤C.size):
  (Builtin.append_ #[t,t] ty #[.slice (some ⟨g,0,none⟩) i r,.slice (some a) m c]).run P w=
   .ok (.slice (some ⟨g,0,none⟩) (i+m) r) (w.setRow g (C.toList.take (i*p.size)++news++C.toList.drop (i*p.size+news.length)).toArray):=by
 have hf:=run_firstCells_some (P:=P) w p.size m a m c news hl I;have T:=run_storeCells_at P g (i*p.size) U news 0 C w hg (by simpa using R) h1;simp only [Nat.add_zero] at T;simp [Builtin.append_,run_underlying ht,sizeOf,typeInfo,hi,Builtin.lenOf,J,hf,Addr.add_lit,T]
end
end
section
open Go.RowKit
section
variable {P:Program} {mu:List Nat} {E:Env} {G:Gho} {fr fr' :Fr} {st st' :St} {a:Act} {w:World} {o:Oper} {K:Act→World→Prop} {Q:Exit→Act→World→Prop} {p:Prop} {rs:Option RS} {i:AI} {gs:Bool}
theorem sj {σ:Sg} {w:World} (t ty e:TypeId) {i:TypeInfo} {z:Value} (C:P.underlying t=some (.slice e)) (hinf:P.info? e=some i) (hz:i.zero=some z) (hz1: ∀u∈z.cells.toList,u.oneCell' =true) (hzs:z.cells.size=i.size)
  (hh:Holds σ w) {A:Option Addr} {cap g:Nat} {rows m:List (List AV)} (hF:(A=none∧rows= []∧cap=0∧g=w.heap.size)∨(A=some ⟨g,0,none⟩∧FRowW σ w g cap i.size rows)) {ad:Addr} {c2:Nat} {news:List Value} (R:news.length=m.length*i.size)
  (J: ∀(j:Nat) u,news[j]? =some u→w.cell? (ad.add j)=some u) (T: ∀u∈news,u.oneCell' =true) (hnrel:RelL σ news m.flatten) (hml: ∀c∈m,c.length=i.size) (hm:0<m.length) (hbytes:(rows.length+m.length)*i.bytes≤140737488355328) (hlen:rows.length+m.length≤140737488355328):
  ∃g' cap' w',(Builtin.append_ #[t,t] ty #[.slice A rows.length cap,.slice (some ad) m.length c2]).run P w= .ok (.slice (some ⟨g',0,none⟩) (rows++m).length cap') w' ∧Holds σ w' ∧BelowBut g w w' ∧(g' =g∨w.heap.size≤g')∧FRowW σ w' g' cap' i.size (rows++m):=by
 have hrl: ∀l:List (List AV),(∀c∈l,c.length=i.size)→l.flatten.length=l.length*i.size:=by
  intro l
  induction l with
  |nil=>intro _;simp
  |cons x l ih=>intro hx;rw [List.flatten_cons,gA5,gA3,ih fun c U=>hx c (by simp [U]),hx x (by simp),gC3];omega
 have newb: ∀(I:List Value) (cap' :Nat),I.length=rows.length*i.size→RelL σ I rows.flatten→(∀c∈rows,c.length=i.size)→(∀u∈I,u.oneCell' =true)→rows.length+m.length≤cap' →
   (Builtin.append_ #[t,t] ty #[.slice A rows.length cap,.slice (some ad) m.length c2]).run P w= .ok (.slice (some ⟨w.heap.size,0,none⟩) (rows.length+m.length) cap') (w.drew.alloc (.cells ((I++news).toArray++Builtin.zeroCells z.cells (cap' - (rows.length+m.length))) e))→
   ∃g' cap' w',(Builtin.append_ #[t,t] ty #[.slice A rows.length cap,.slice (some ad) m.length c2]).run P w= .ok (.slice (some ⟨g',0,none⟩) (rows++m).length cap') w' ∧Holds σ w' ∧BelowBut g w w' ∧(g' =g∨w.heap.size≤g')∧FRowW σ w' g' cap' i.size (rows++m):=by
  intro I cap' hol hor hro hoo hcap' hrun;have hb:Below w.heap.size w (w.drew.alloc (.cells ((I++news).toArray++Builtin.zeroCells z.cells (cap' - (rows.length+m.length))) e)):=((Below.refl _ _).drew).alloc (gA4 _) _;refine ⟨w.heap.size,cap',_,by rw [gA5];exact hrun,fun b o v hv=> ?_,⟨hb.os,hb.tape,hb.output,hb.size,fun k hk _=>hb.block k hk⟩,.inr (gA4 _),e,_,heap_alloc_new w.drew _,?_,by rw [gA5];exact hcap',fun c U=> ?_,?_,fun u C=> ?_,fun j=> ?_⟩
  ·have h1:=hh b o v hv
   exact (hb.cell (p:=⟨b,o,none⟩) (World.block_lt_of_cell? w _ h1)).trans h1
  ·simp only [Array.size_append,List.size_toArray,gA5,size_zeroCells,hol,R,hzs,←gC3]
   congr 1;omega
  ·rcases gB5 U with U|U
   ·exact hro c U
   ·exact hml c U
  ·rw [List.flatten_append,Array.toList_append,gA5,gC3]
   rw [List.take_append_of_le_length (by simp [hol,R]),List.take_of_length_le (by simp [hol,R])];exact hor.append hnrel
  ·rw [Array.toList_append,List.mem_append] at C
   rcases C with C|C
   ·rcases gB5 (by simpa using C) with C|C
    ·exact hoo u C
    ·exact T u C
   ·exact jP hz1 _ u C
  ·cases hq:σ w.heap.size j with
   |none=>rfl
   |some v=>
    have:=World.block_lt_of_cell? w _ (hh _ _ _ hq);simp at this
 rcases hF with ⟨rfl,rfl,rfl,rfl⟩|⟨rfl,hF⟩
 ·have hge:=grownCap_ge w m.length 0 e
  refine newb [] (grownCap w m.length 0 e) (by simp) .nil (fun c U=>by cases U) (fun u C=>by cases C) (by simpa using hge) ?_;have h1:=run_append_nil w t ty e i z C hinf hz ad m.length c2 news R J hm (by simp at hlen;omega) (by simp at hbytes;omega);simp only [List.length_nil,Nat.zero_add,List.nil_append];exact h1
 obtain ⟨e',r,hg,hsz,hcap,hro,hrel,hone,hfree⟩:=hF
 have hol:(r.toList.take (rows.length*i.size)).length=rows.length*i.size:=by
  have hcl:r.toList.length=cap*i.size:=by simpa using hsz
  rw [gA7,hcl];have:=Nat.mul_le_mul_right i.size hcap;omega
 by_cases hroom:rows.length+m.length≤cap
 ·have hfit:rows.length*i.size+news.length≤r.size:=by rw [R,hsz,←gC3];exact Nat.mul_le_mul_right _ hroom
  have hrun:=dx w t ty e e' i C hinf g rows.length cap r hg ad m.length c2 news R J T hroom hfit;refine ⟨g,cap,_,by rw [gA5];exact hrun,fun b o v hv=> ?_,?_,.inl rfl,e',_,setRow_heap w g r _ e' _ hg,?_,by rw [gA5];exact hroom,fun c U=> ?_,?_,fun u C=> ?_,hfree⟩
  ·have hne:b≠g:=fun e=>by rw [e,hfree o] at hv;cases hv
   have h1:=hh b o v hv;exact (World.cell?_of_block (w:=w) (a:=⟨b,o,none⟩) (setRow_other w g b _ hne)).trans h1
  ·obtain ⟨h1,h2,h3,h4,_⟩:=below_setRow (Below.refl g w) (gA4 _) (r.toList.take (rows.length*i.size)++news++r.toList.drop (rows.length*i.size+news.length)).toArray
   exact ⟨h1,h2,h3,h4,fun k _ hn=>setRow_other w g k _ hn⟩
  ·have hcl:r.toList.length=r.size:=by simp
   rw [←hsz];simp only [List.size_toArray,gA5,gA7,gA6];omega
  ·rcases gB5 U with U|U
   ·exact hro c U
   ·exact hml c U
  ·rw [List.flatten_append,gA5,gC3]
   have e1:(r.toList.take (rows.length*i.size)++news++r.toList.drop (rows.length*i.size+news.length)).toArray.toList.take (rows.length*i.size+m.length*i.size)=r.toList.take (rows.length*i.size)++news:=by
    show (r.toList.take (rows.length*i.size)++news++r.toList.drop (rows.length*i.size+news.length)).take _=_;exact List.take_left' (by rw [gA5,hol,R])
   rw [e1];exact hrel.append hnrel
  ·have C:u∈r.toList.take (rows.length*i.size)++news++r.toList.drop (rows.length*i.size+news.length):=C
   simp only [List.mem_append] at C;rcases C with (C|C)|C
   ·exact hone u (List.mem_of_mem_take C)
   ·exact T u C
   ·exact hone u (List.mem_of_mem_drop C)
 ·have hge:=grownCap_ge w (rows.length+m.length) cap e
  refine newb (r.toList.take (rows.length*i.size)) (grownCap w (rows.length+m.length) cap e) hol hrel hro (fun u C=>hone u (List.mem_of_mem_take C)) hge ?_
  have h1:=run_append_grow w t ty e i z C hinf hz ⟨g,0,none⟩ rows.length cap (r.toList.take (rows.length*i.size)) hol (fun j v hj=>by
   rw [Addr.add_lit,Nat.zero_add,cell_of_row w g j r e' (0,0) hg];rw [List.getElem?_take] at hj;split at hj
   ·simpa using hj
   ·cases hj) ad m.length c2 news R J (by omega) (by omega) (growslice_fits (by omega) hbytes)
  rw [h1];simp
theorem GQ {σ:Sg} {m:List (List AV)} {esz:Nat} {f:Nat→Nat→Value} (r: ∀(i:Nat) (c:List AV),m[i]? =some c→c.length=esz) (hr: ∀(i j:Nat) (c:List AV) (a:AV),m[i]? =some c→c[j]? =some a→Rel1 σ (f i j) a):RelL σ (c8 m.length esz f) m.flatten:=by
 have I: ∀l:List (List AV),(∀c∈l,c.length=esz)→l.flatten.length=l.length*esz:=by
  intro l
  induction l with
  |nil=>intro _;simp
  |cons x l ih=>intro p;rw [List.flatten_cons,gA5,gA3,ih fun c g=>p c (by simp [g]),p x (by simp),gC3];omega
 have C: ∀c∈m,c.length=esz:=fun c g=>by
  obtain ⟨i,hi⟩:=List.getElem?_of_mem g;exact r i c hi
 refine ⟨by rw [cx,I m C],fun q v a J T=> ?_⟩;have P:q<m.length*esz:=by have:=(gA0 J).1;rwa [cx] at this
 have U:0<esz:=by
  rcases Nat.eq_zero_or_pos esz with h|h
  ·subst h;omega
  ·exact h
 rw [iX f P] at J;cases J;have h1:q / esz<m.length:=Nat.div_lt_of_lt_mul (by rw [Nat.mul_comm];exact P);have g:m[q / esz]? =some m[q / esz]:=gA1 h1;have hl:=r _ _ g;have h2:q%esz<(m[q / esz]).length:=by rw [hl];exact Nat.mod_lt _ U
 have p:(m[q / esz])[q%esz]? =some (m[q / esz])[q%esz]:=gA1 h2
 have key: ∀(l:List (List AV)),(∀c∈l,c.length=esz)→ ∀(i:Nat) (c:List AV),l[i]? =some c→ ∀(j:Nat) x,c[j]? =some x→l.flatten[i*esz+j]? =some x:=by
  intro l
  induction l with
  |nil=>intro _ i c g;simp at g
  |cons y l ih=>
   intro hl i c g j x p;have hy:=hl y (by simp);cases i with
   |zero=>
    simp at g;subst g;rw [List.flatten_cons,Nat.zero_mul,Nat.zero_add,gC1 (gA0 p).1];exact p
   |succ i=>
    rw [List.flatten_cons,gC2 (by rw [hy,gC3];omega),hy,show (i+1)*esz+j-esz=i*esz+j by rw [gC3];omega];exact ih (fun c g=>hl c (by simp [g])) i c (by simpa using g) j x p
 have R:=key m C _ _ g _ _ p;have h4:q / esz*esz+q%esz=q:=Nat.div_add_mod' q esz;rw [h4,T] at R;cases R;exact hr _ _ _ _ g p
theorem IY (h:Conc E G fr st a w) {c:Call} (ho:o.op= .call c) (hc:c.callee= .builtin .append) (hi:aW P mu gs o=some i) (U:aj P i rs fr st=some (fr',st',p)) (hp:p) (hn: ∀d,o.dst=some d→d<E.n) (hap: ∃d e b x y,i= .appr d e b x y) (hk:Then E fr' st' K):o.wp P a w K Q:=by
 unfold aW at hi;rw [ho] at hi;simp only [hc] at hi;split at hi
 ·rename_i d x y t u hd hargs' htys'
  have hargs:c.args= #[x,y]:=Array.toList_inj.1 hargs';have htys:c.argTypes= #[t,u]:=Array.toList_inj.1 htys';split at hi
  ·rename_i x' y' e hx hy hu
   split at hi
   ·rename_i inf hinf
    split at hi
    ·rename_i z hz
     split at hi
     ·rename_i hcond
      split at hi
      ·cases hi
       simp only [gA9] at hcond;obtain ⟨⟨⟨⟨c0,c1⟩,c2⟩,c3⟩,c4⟩:=hcond;have hz1: ∀u∈z.cells.toList,u.oneCell' =true:=fun u hu=>Array.all_eq_true_iff_forall_mem.1 c0 u (by simpa using hu)
       have htu:=Nat.eq_of_beq_eq_true c1;subst htu;have hzs:=Nat.eq_of_beq_eq_true c2
       have hrunW: ∀v w',(Builtin.append_ #[t,t] o.type #[a.eval x,a.eval y]).run P w= .ok v w' →(execOp a.eval o).run P w= .ok (.value v) w' :=by
        intro v w' hv;simp [execOp,ho,resolve,hc,hargs,htys,invoke,builtin,hv]
       have hY2: ∀(t2:Tag) (I:Nat) (m:List (List AV)),y'.ev fr=some (.lst t2 I m)→uI t2 I inf.size→0<m.length→
         ∃ad J,a.eval y= .slice (some ad) m.length J∧ ∃news:List Value,news.length=m.length*inf.size∧(∀(j:Nat) u,news[j]? =some u→w.cell? (ad.add j)=some u)∧(∀u∈news,u.oneCell' =true)∧RelL G.σ news m.flatten∧ ∀c∈m,c.length=inf.size:=by
        intro t2 I m hyv he2 C;have hY:=h.ev hy hyv;obtain ⟨A2,J,b2,qq,f2,hv2,p2,p3,p4,p5,p6,_⟩:=cN hY
        have hnn:t2≠ .nil:=fun hnil=>by
         have:=uw hY hnil;rw [this] at C;simp at C
        have hee:I=inf.size:=by cases t2<;>first|exact absurd rfl hnn|exact he2
        subst hee;have hA2:=p3 C;subst hA2;have hr:=GQ (f:=f2) p4 p6
        exact ⟨_,J,hv2,c8 m.length inf.size f2,cx _ _ _,fun j v hj=>by rw [Addr.add_lit];exact h.hold _ _ _ (il p5 j v hj),hr.one,hr,fun c hc=>by
         obtain ⟨i,hi⟩:=List.getElem?_of_mem hc;exact p4 i c hi⟩
       simp only [aj] at U;split at U
       ·rename_i id esz' n cap0 t2 I m rows rows' hxv hyv
        split at U
        ·rename_i cs hbx0 hfd
         cases U;obtain ⟨hsp,hcl,he1,hnr,hro,he2,C,R,hlen⟩:=hp;subst he1 hnr;obtain ⟨ad,J,hv2,news,n1,n2,n3,n4,n5⟩:=hY2 t2 I m hyv he2 C;obtain ⟨hbx,hmp⟩:=az hbx0;obtain ⟨_,hid,_,g0,hv,hg0⟩:=h.ev hx hxv;obtain ⟨g,hB,hge,_⟩:=h.box id cs false hbx;rw [←hg0 g hB] at hv;obtain ⟨hF,_⟩:=FRowW.ofBox h hbx hmp hB hsp hcl hro;obtain ⟨g',cp,w',hrun,hh,T,hgg,hr⟩:=sj (P:=P) t o.type e hu hinf hz hz1 hzs h.hold (.inr ⟨rfl,hF⟩) (m:=m) (c2:=J) n1 n2 n3 n4 n5 C R hlen;unfold Oper.wp;rw [hrunW _ _ (by rw [hv,hv2];exact hrun),Oper.upon_value,hd];have h2:=h.give hid hbx hB hge hF.free T (Ext.refl _ _) hh
         have hup: ∀id' g',upd G.B id none id' =some g' →id' ≠id∧G.B id' =some g' :=fun id' g' hg=>by
          rw [ax] at hg;split at hg
          ·cases hg
          ·rename_i e;exact ⟨e,hg⟩
         obtain ⟨G',hG'⟩:=h2.anew (hn d hd) hfd (g:=g') (by rcases hgg with e|e; ·rw [e];exact hge
                                                            ·exact .inl (gB7 h.lt e)) hr
          (fun id' hid' =>by
           obtain ⟨k1,k2⟩:=hup _ _ hid';rcases hgg with e|e
           ·subst e;exact k1 (h.binj _ _ _ k2 hB)
           ·have:=h.Blt id' g' k2;omega)
          (fun s r U e' =>by
           rcases hgg with e|e
           ·subst e;exact (h.row s r U).2 id (by rw [e'];exact hB)
           ·have:=h.ρlt s r U;omega)
          (fun k x hk e' =>by
           obtain ⟨k1,k2,k3⟩:=h.phi k x hk;rcases hgg with e|e
           ·subst e;exact k2 id (by rw [e'];exact hB)
           ·have:=k1.2.lt;omega)
         exact hk _ _ _ hG'
        ·cases U
       ·rename_i esz' l0 t2 I m rows rows' hxv hyv
        split at U
        ·rename_i hfd
         cases U;obtain ⟨he2,C,R,hlen⟩:=hp;obtain ⟨ad,J,hv2,news,n1,n2,n3,n4,n5⟩:=hY2 t2 I m hyv he2 C;have hX:=h.ev hx hxv;have hl0:=uw hX rfl;subst hl0;obtain ⟨A,cap,b,q,f,hv,q2,q3,q4,q5,q6,q7,q8,q9⟩:=cN hX;obtain ⟨q81,q82,q83⟩:=q8 rfl;subst q81;subst q83;obtain ⟨g',cp,w',hrun,hh,T,hgg,hr⟩:=sj (P:=P) t o.type e hu hinf hz hz1 hzs h.hold (A:=none) (cap:=0) (g:=w.heap.size) (rows:= []) (.inl ⟨rfl,rfl,rfl,rfl⟩) (m:=m) (c2:=J) n1 n2 n3 n4 n5 C (by simpa using R) (by simpa using hlen);unfold Oper.wp;rw [hrunW _ _ (by rw [hv,hv2];exact hrun),Oper.upon_value,hd];have hb2:Below w.heap.size w w' :=⟨T.os,T.tape,T.output,T.size,fun k hk=>T.block k hk (by omega)⟩
         have h2:=h.world hb2 (Ext.refl _ _) hh;have hge:w.heap.size≤g' :=by rcases hgg with e|e<;>omega
         obtain ⟨G',hG'⟩:=h2.anew (hn d hd) hfd (g:=g') (.inl (gB7 h.lt hge)) hr
          (fun id' hid' =>by have:=h.Blt id' g' hid';omega)
          (fun s r U e' =>by have:=h.ρlt s r U;omega)
          (fun k x hk e' =>by obtain ⟨k1,k2,k3⟩:=h.phi k x hk;have:=k1.2.lt;omega)
         exact hk _ _ _ hG'
        ·cases U
       ·cases U
      ·cases hi
       obtain ⟨_,_,_,_,_,e⟩:=hap;cases e
     ·cases hi
    ·cases hi
   ·cases hi
  ·cases hi
 ·cases hi
theorem K3 (h:Conc E G fr st a w) {c:Call} (ho:o.op= .call c) (hc:c.callee= .builtin .append) (hi:aW P mu gs o=some i) (hs:aj P i rs fr st=some (fr',st',p)) (hp:p) (hn: ∀d,o.dst=some d→d<E.n) (hnap: ∀d e b x y,i≠ .appr d e b x y) (hk:Then E fr' st' K):o.wp P a w K Q:=by
 unfold aW at hi;rw [ho] at hi;simp only [hc] at hi;split at hi
 ·rename_i d x y t u hd hargs' htys'
  have hargs:c.args= #[x,y]:=Array.toList_inj.1 hargs';have htys:c.argTypes= #[t,u]:=Array.toList_inj.1 htys';split at hi
  ·rename_i x' y' e hx hy J
   split at hi
   ·rename_i r hinf
    split at hi
    ·rename_i z hz
     split at hi
     ·rename_i hcond
      split at hi
      ·cases hi;exact absurd rfl (hnap _ _ _ _ _)
      cases hi;simp only [gA9] at hcond;obtain ⟨⟨⟨⟨c0,c1⟩,c2⟩,c3⟩,c4⟩:=hcond;have hz1: ∀u∈z.cells.toList,u.oneCell' =true:=fun u J=>Array.all_eq_true_iff_forall_mem.1 c0 u (by simpa using J)
      have htu:=Nat.eq_of_beq_eq_true c1;subst htu;have hzs:=Nat.eq_of_beq_eq_true c2;have hpos:1≤r.size:=Nat.le_of_ble_eq_true c3;simp only [aj] at hs;split at hs
      ·rename_i tg esz' l t2 esz2 m hxv hyv
       cases hs;obtain ⟨hown,he1,he2,hbytes,hlen,hfull⟩:=hp
       have hrunW: ∀v w',(Builtin.append_ #[t,t] o.type #[a.eval x,a.eval y]).run P w= .ok v w' →(execOp a.eval o).run P w= .ok (.value v) w' :=by
        intro v w' hv;simp [execOp,ho,resolve,hc,hargs,htys,invoke,builtin,hv]
       obtain ⟨s0,hat,har,htg,hbl⟩:=IX d (Nat.lt_of_lt_of_le (hn d hd) h.small) hown;rw [hat,har] at hk;have hX:=h.ev hx hxv;have hY:=h.ev hy hyv;obtain ⟨A,cap,b,q,f,hv,q2,q3,q4,q5,q6,q7,q8,q9⟩:=cN hX;obtain ⟨A2,cap2,b2,qq,f2,hv2,p2,p3,p4,p5,p6,_⟩:=cN hY
       have k4: ∀(i:Nat) (cc:List AV),l[i]? =some cc→cc.length=r.size:=by
        intro i cc hcc;by_cases I:tg= .nil
        ·have:=(q8 I).2.1
         rw [List.eq_nil_of_length_eq_zero this] at hcc;simp at hcc
        ·have:esz' =r.size:=by cases tg<;>first|exact absurd rfl I|exact he1
         rw [←this];exact q4 i cc hcc
       have k5: ∀i j,i<l.length→j<r.size→G.σ b (q+i*r.size+j)=some (f i j):=by
        intro i j hil C;by_cases I:tg= .nil
        ·have:=(q8 I).2.1;omega
        ·have:esz' =r.size:=by cases tg<;>first|exact absurd rfl I|exact he1
         subst this;exact q5 i j hil C
       have n4: ∀(i:Nat) (cc:List AV),m[i]? =some cc→cc.length=r.size:=by
        intro i cc hcc;by_cases I:t2= .nil
        ·have:=(uw hY I)
         rw [this] at hcc;simp at hcc
        ·have:esz2=r.size:=by cases t2<;>first|exact absurd rfl I|exact he2
         rw [←this];exact p4 i cc hcc
       have n5: ∀i j,i<m.length→j<r.size→G.σ b2 (qq+i*r.size+j)=some (f2 i j):=by
        intro i j hil C;by_cases I:t2= .nil
        ·have:=(uw hY I);rw [this] at hil;simp at hil
        ·have:esz2=r.size:=by cases t2<;>first|exact absurd rfl I|exact he2
         subst this;exact p5 i j hil C
       have hslack:(cap=l.length∧(m.length=0→l.length=0))∨ ∃g,A=some ⟨g,0,none⟩∧G.ρ s0 (st.row s0)=some ⟨g,l.length,r.size,cap,ew s0⟩:=by
        cases tg with
        |nil=>have:=q8 rfl;exact .inl ⟨by omega,fun _=>this.2.1⟩
        |full=>exact .inl ⟨q9 rfl,fun h0=>hfull.elim id fun U=>by omega⟩
        |any=>exact hown.elim
        |own s v=>
         obtain ⟨e1,e2⟩:=htg s v rfl;have he1' :esz' =r.size:=he1;subst e1 e2 he1';rcases q7 with ⟨h0,A',hv',_⟩|⟨g,cap',hv',hρ⟩
         ·rw [hv] at hv';injection hv' with _ _ e3;exact .inl ⟨e3,fun _=>h0⟩
         ·rw [hv] at hv';injection hv' with e3 _ e4;subst e4;exact .inr ⟨g,e3,hρ⟩
       have hnew: ∀xx,G.ρ s0 (st.row s0+1)=some xx→False:=fun xx hq=>by have:=h.rlt _ _ _ hq;omega
       have hbump:=h.bump s0;have hl47:l.length+m.length≤140737488355328:=hlen;by_cases hm0:m.length=0
       ·
        have hm:m= []:=List.eq_nil_of_length_eq_zero hm0;subst hm;have hrun:=hrunW _ _ (by rw [hv,hv2];exact cOz w t o.type e J hinf A A2 l.length cap cap2 q2);unfold Oper.wp;rw [hrun,Oper.upon_value,hd]
        have hrel:Rel1 G.σ (.slice A l.length cap) (.lst .any r.size (l++ [])):=by
         rw [List.append_nil];exact .lst .any r.size l A _ cap b q f rfl q2 q3 k4 k5 q6 trivial
        obtain ⟨G',hG'⟩:=Conc.appEnd (σ' :=G.σ) (G:=G) hbump (hn d hd) hnew hrel hbl (by
         rcases hslack with ⟨hsl,hl0⟩|⟨g,hA,hρ⟩
         ·exact .inl ⟨by simpa using hl0 rfl,A,by rw [hsl];simp⟩
         ·subst hA
          obtain ⟨hra,hB⟩:=h.row s0 _ hρ;refine .inr ⟨g,cap,by simp,by simpa using hra,hB,fun s' r' R hg=> ?_,fun k x hk e=>(h.phi k x hk).2.2 _ _ hρ e.symm⟩;rw [ax] at R;split at R
          ·rename_i es;subst es;exact hnew _ R
          ·rename_i es;exact es (h.rinj s' s0 r' _ R hρ hg))
        exact hk _ _ _ hG'
       ·have hmpos:0<m.length:=by omega
        have hA2:=p3 hmpos;subst hA2;have hnl:(c8 m.length r.size f2).length=m.length*r.size:=cx _ _ _
        have hncell: ∀(j:Nat) v,(c8 m.length r.size f2)[j]? =some v→w.cell? ((⟨b2,qq,none⟩:Addr).add j)=some v:=fun j v C=>by
         rw [Addr.add_lit];exact h.hold _ _ _ (il n5 j v C)
        have hlone: ∀v∈c8 l.length r.size f,v.oneCell' =true:=by
         intro v hvm;obtain ⟨j,C⟩:=List.getElem?_of_mem hvm;have hjl:j<l.length*r.size:=by have:=(gA0 C).1;rwa [show (c8 l.length r.size f).length=l.length*r.size from cx _ _ _] at this
         rw [iX f hjl] at C;cases C;have U:j / r.size<l.length:=Nat.div_lt_of_lt_mul (by rw [Nat.mul_comm];exact hjl);have h2:l[j / r.size]? =some l[j / r.size]:=gA1 U;have h3:=k4 _ _ h2;have h4:j%r.size<l[j / r.size].length:=by rw [h3];exact Nat.mod_lt _ (by omega)
         exact (q6 _ _ _ _ h2 (gA1 h4)).one
        have hnone: ∀v∈c8 m.length r.size f2,v.oneCell' =true:=by
         intro v hvm;obtain ⟨j,C⟩:=List.getElem?_of_mem hvm;have hjl:j<m.length*r.size:=by have:=(gA0 C).1;rwa [hnl] at this
         rw [iX f2 hjl] at C;cases C;have U:j / r.size<m.length:=Nat.div_lt_of_lt_mul (by rw [Nat.mul_comm];exact hjl);have h2:m[j / r.size]? =some m[j / r.size]:=gA1 U;have h3:=n4 _ _ h2;have h4:j%r.size<m[j / r.size].length:=by rw [h3];exact Nat.mod_lt _ (by omega)
         exact (p6 _ _ _ _ h2 (gA1 h4)).one
        by_cases hroom:l.length+m.length≤cap
        ·
         rcases hslack with hsl|⟨g,hA,hρ⟩
         ·omega
         ·subst hA
          obtain ⟨⟨hge,e',T,hg,hrn,⟨hcs,hcone⟩,hfree⟩,hB⟩:=h.row s0 _ hρ;simp only at hge hg hrn hcs hfree hB
          have hfit:l.length*r.size+(c8 m.length r.size f2).length≤T.size:=by
           rw [hnl,hcs,←gC3];exact Nat.mul_le_mul_right _ hroom
          have hrun:=hrunW _ _ (by rw [hv,hv2];exact dx w t o.type e e' r J hinf g l.length cap T hg _ m.length cap2 _ hnl hncell hnone hroom hfit);unfold Oper.wp;rw [hrun,Oper.upon_value,hd];generalize hnews:c8 m.length r.size f2=news at*;have hcurl:T.toList.length=T.size:=by simp
          have hat2: ∀(j:Nat) v,news[j]? =some v→(T.toList.take (l.length*r.size)++news++T.toList.drop (l.length*r.size+news.length)).toArray[l.length*r.size+j]? =some v:=by
           intro j v C;have hjl:=(gA0 C).1;rw [List.getElem?_toArray,List.append_assoc,gC2 (by rw [gA7];omega),gA7,gC1 (by omega),show l.length*r.size+j-min (l.length*r.size) T.toList.length=j by omega];exact C
          have hat1: ∀(j:Nat),j<l.length*r.size→(T.toList.take (l.length*r.size)++news++T.toList.drop (l.length*r.size+news.length)).toArray[j]? =T[j]? :=by
           intro j C;rw [List.getElem?_toArray,List.append_assoc,gC1 (by rw [gA7];omega),List.getElem?_take,if_pos C];simp
          have hle:G.σ.le fun bb j=>if bb=g∧l.length*r.size≤j then news[j-l.length*r.size]? else G.σ bb j:=fun bb j v hvv=>by
           have: ¬(bb=g∧l.length*r.size≤j):=fun e=>by rw [e.1,hfree j e.2] at hvv;cases hvv
           simp only [if_neg this];exact hvv
          have hne: ∀s' r',G.ρ s' (upd st.row s0 (st.row s0+1) s')=some r' →r'.g≠g:=fun s' r' R hg' =>by
           rw [ax] at R;split at R
           ·rename_i es;subst es;exact hnew _ R
           ·rename_i es;exact es (h.rinj s' s0 r' _ R hρ hg')
          have hφ: ∀k x,G.φ k=some x→x.g≠g:=fun k x hk e=>(h.phi k x hk).2.2 _ _ hρ e.symm
          have hC:=hbump.commit hge hg hB hne hφ (new:=(T.toList.take (l.length*r.size)++news++T.toList.drop (l.length*r.size+news.length)).toArray) hle (fun bb j hbb=>if_neg fun e=>hbb e.1) (fun j v hvv=>by
           replace hvv:(if g=g∧l.length*r.size≤j then news[j-l.length*r.size]? else G.σ g j)=some v:=hvv;by_cases C:l.length*r.size≤j
           ·rw [if_pos ⟨rfl,C⟩] at hvv
            have:=hat2 _ _ hvv;rw [show l.length*r.size+(j-l.length*r.size)=j by omega] at this;exact this
           ·rw [if_neg (fun e=>C e.2)] at hvv
            rw [hat1 j (by omega)];have U:=h.hold _ _ _ hvv;rw [cell_of_row w g j T e' (0,0) hg] at U;exact U)
          have hrel:Rel1 (fun bb j=>if bb=g∧l.length*r.size≤j then news[j-l.length*r.size]? else G.σ bb j) (.slice (some ⟨g,0,none⟩) (l.length+m.length) cap) (.lst .any r.size (l++m)):=by
           refine u6 (f:=f) (f2:=f2) k4 n4 (fun i j cc xx U h2=>(q6 i j cc xx U h2).mono hle) (fun i j cc xx U h2=>(p6 i j cc xx U h2).mono hle) hroom (fun i j hi C=> ?_) (fun i j hi C=> ?_)
           ·have U:=k5 i j hi C
            have h2:=q3 (by omega);injection h2 with h2
            injection h2 with h3 h4
            subst h3 h4;rw [Nat.zero_add] at U;exact hle _ _ _ U
           ·have U:news[i*r.size+j]? =some (f2 i j):=by rw [←hnews];exact qw f2 hi C
            have h2:l.length*r.size≤(l.length+i)*r.size+j:=by rw [gC3];omega
            show (if g=g∧l.length*r.size≤(l.length+i)*r.size+j then news[(l.length+i)*r.size+j-l.length*r.size]? else G.σ g ((l.length+i)*r.size+j))=_;rw [if_pos ⟨rfl,h2⟩,show (l.length+i)*r.size+j-l.length*r.size=i*r.size+j by rw [gC3];omega];exact U
          refine Exists.elim (Conc.appEnd (G:=G) hC (hn d hd) hnew hrel hbl (.inr ⟨g,cap,by simp,⟨hge,e',_,setRow_heap w g T _ e' _ hg,⟨by simpa using hroom,Bl hbl⟩,⟨by
            simp only [List.size_toArray,gA5,gA7,gA6];omega,fun u J=>by
            simp only [List.mem_append] at J;rcases J with (J|J)|J
            ·exact hcone u (List.mem_of_mem_take J)
            ·exact hnone u J
            ·exact hcone u (List.mem_of_mem_drop J)⟩,fun j C=> ?_⟩,hB,hne,hφ⟩)) (fun G' hG' =>hk _ _ _ hG')
          ·simp only [gA5] at C⊢
           have h2:l.length*r.size≤j:=by rw [gC3] at C;omega
           simp only [true_and,if_pos h2];apply List.getElem?_eq_none;rw [hnl];rw [gC3] at C;omega
        ·
         have hsl:cap<l.length+m.length:=by omega
         have fin: ∀(cells:Array Value) (cap' :Nat),(Builtin.append_ #[t,t] o.type #[a.eval x,a.eval y]).run P w= .ok (.slice (some ⟨w.heap.size,0,none⟩) (l.length+m.length) cap') (w.drew.alloc (.cells cells e))→l.length+m.length≤cap' →
           (∀(q:Nat) v,(c8 l.length r.size f++c8 m.length r.size f2)[q]? =some v→cells[q]? =some v)→cells.size=cap' *r.size→(∀u∈cells.toList,u.oneCell' =true)→o.wp P a w K Q:=by
          intro cells cap' hrun hcap' hcells hcsz hcone;have hrun:=hrunW _ _ hrun;unfold Oper.wp;rw [hrun,Oper.upon_value,hd];obtain ⟨σ',hle,hC,hσ1,hσ2⟩:=D0 hbump (e:=e) (esz:=r.size) (n:=0) (c8 l.length r.size f++c8 m.length r.size f2) hcells;have hll:(c8 l.length r.size f).length=l.length*r.size:=cx _ _ _
          have hrel:Rel1 σ' (.slice (some ⟨w.heap.size,0,none⟩) (l.length+m.length) cap') (.lst .any r.size (l++m)):=by
           refine u6 (f:=f) (f2:=f2) k4 n4 (fun i j cc xx U h2=>(q6 i j cc xx U h2).mono hle) (fun i j cc xx U h2=>(p6 i j cc xx U h2).mono hle) hcap' (fun i j hi C=>hσ1 _ _ ?_) (fun i j hi C=>hσ1 _ _ ?_)
           ·have U:=qw f hi C
            rw [gC1 (gA0 U).1];exact U
           ·rw [gC2 (by rw [hll,gC3];omega),hll,show (l.length+i)*r.size+j-l.length*r.size=i*r.size+j by rw [gC3];omega]
            exact qw f2 hi C
          have hBlt: ∀id g,G.B id=some g→g<w.heap.size:=fun id g hgB=>by
           cases hbx:st.box id with
           |none=>rw [h.bnone id hbx] at hgB;cases hgB
           |some xx=>
            obtain ⟨cs',fz⟩:=xx;obtain ⟨g',hg',_,t',vs',hh,_⟩:=h.box id cs' fz hbx;rw [hgB] at hg';cases hg';exact hh.lt
          refine Exists.elim (Conc.appEnd (G:=G) hC (hn d hd) hnew hrel hbl (.inr ⟨w.heap.size,cap',by simp,⟨.inl h.lt,e,cells,by rw [show w.heap.size=w.drew.heap.size from rfl];exact heap_alloc_new _ _,⟨by simpa using hcap',Bl hbl⟩,⟨hcsz,hcone⟩,fun j C=> ?_⟩,fun id hid=> ?_,fun s' r' R hg' => ?_,fun k x hk e=>by have:=((h.phi k x hk).1.2).lt;omega⟩)) (fun G' hG' =>hk _ _ _ hG')
          ·refine hσ2 j ?_
           simp only [gA5] at C⊢;rw [hll,hnl,←gC3];exact C
          ·have:=hBlt _ _ hid;omega
          ·rw [ax] at R
           split at R
           ·rename_i es;subst es;exact hnew _ R
           ·obtain ⟨⟨_,e2,cur2,k3,_⟩,_⟩:=h.row s' r' R
            have:=ea k3;omega
         have hll:(c8 l.length r.size f).length=l.length*r.size:=cx _ _ _;cases A with
         |none=>
          have hl0:l.length=0:=by
           rcases Nat.eq_zero_or_pos l.length with h0|h0
           ·exact h0
           ·cases q3 h0
          have hcap0:cap=0:=by
           rcases hslack with hsl|⟨g,hA,_⟩
           ·omega
           ·cases hA
          subst hcap0;have hge:=grownCap_ge w m.length 0 e
          refine fin _ (grownCap w m.length 0 e) (by
           rw [hv,hv2,hl0,Nat.zero_add];exact run_append_nil w t o.type e r z J hinf hz _ m.length cap2 _ hnl hncell hmpos (by omega) (by rw [hl0,Nat.zero_add] at hbytes;omega)) (by omega) (fun q v hq=> ?_) ?_ (fun u J=> ?_)
          ·rw [List.eq_nil_of_length_eq_zero (show (c8 l.length r.size f).length=0 by rw [hll,hl0,Nat.zero_mul]),List.nil_append] at hq
           rw [Array.getElem?_append_left (by simpa using (gA0 hq).1)];simpa using hq
          ·simp only [Array.size_append,List.size_toArray,size_zeroCells,hnl,hzs,←gC3]
           congr 1;omega
          ·simp only [Array.toList_append,List.mem_append] at J
           rcases J with J|J
           ·exact hnone u (by simpa using J)
           ·exact jP hz1 _ u J
         |some ad=>
          have holds: ∀(j:Nat) v,(c8 l.length r.size f)[j]? =some v→w.cell? (ad.add j)=some v:=fun j v C=>by
           have hjl:j<l.length*r.size:=by have:=(gA0 C).1;rwa [hll] at this
           have hl0:0<l.length:=by
            rcases Nat.eq_zero_or_pos l.length with h0|h0
            ·rw [h0] at hjl;omega
            ·exact h0
           have:=q3 hl0;cases this;rw [Addr.add_lit];exact h.hold _ _ _ (il k5 j v C)
          have hge:=grownCap_ge w (l.length+m.length) cap e
          refine fin _ (grownCap w (l.length+m.length) cap e) (by
           rw [hv,hv2];exact run_append_grow w t o.type e r z J hinf hz ad l.length cap _ hll holds _ m.length cap2 _ hnl hncell hsl (by omega) (growslice_fits hsl hbytes)) hge (fun q v hq=> ?_) ?_ (fun u J=> ?_)
          ·rw [Array.getElem?_append_left (by simpa using (gA0 hq).1)]
           simpa using hq
          ·simp only [Array.size_append,List.size_toArray,size_zeroCells,hnl,hll,hzs,←gC3]
           congr 1;omega
          ·simp only [Array.toList_append,List.mem_append] at J
           rcases J with J|J
           ·rcases gB5 (by simpa using J) with J|J
            ·exact hlone u J
            ·exact hnone u J
           ·exact jP hz1 _ u J
      ·cases hs
     ·cases hi
    ·cases hi
   ·cases hi
  ·cases hi
 ·cases hi
theorem GR (h:Conc E G fr st a w) {c:Call} {f:Operand} (ho:o.op= .call c) (I:c.callee= .value f) (hi:aW P mu gs o=some i) (U:aj P i rs fr st=some (fr',st',p)) (hp:p) (hn: ∀d,o.dst=some d→d<E.n) (hco: ∃d f args,i= .callo d f args) (hk:Then E fr' st' K):o.wp P a w K Q:=by
 obtain ⟨d0,f0,args0,hie⟩:=hco;unfold aW at hi;rw [ho] at hi;simp only [I] at hi;split at hi
 ·rename_i f' args hf J
  split at hi
  ·cases hi;cases hie
  ·split at hi
   ·cases hi
    cases hie;simp only [aj] at U;split at U
    ·rename_i fid cap as r hfv hav
     split at U
     ·rename_i bs hbs
      cases U;obtain ⟨us,hfe,hus⟩:=cg (h.ev hf hfv).1;exact ux h ho I hfe hus (dX h J hav hbs) hp hn hk
     ·cases U
    ·rename_i fid cap as esz rows hfv hav
     split at U
     ·rename_i bs d hbs hd
      cases U;obtain ⟨us,hfe,hus⟩:=cg (h.ev hf hfv).1;have hrel:=dX h J hav hbs;unfold Oper.wp;rw [cR ho I hp.cb hfe,Oper.upon_enter];refine (hp.run G.σ w _ h.hold (hrel.append hus) (E.gwb h.below)).mono fun e w' ⟨σ1,g,cp,he,hx,hh,hb,hge,e',C,hg,hsz,R,hlen,hr,hone,T⟩=> ?_
      subst he;have hcl:C.toList.length=cp*esz:=by simpa using hsz
      have hfl:rows.flatten.length=rows.length*esz:=by
       have: ∀l:List (List AV),(∀c∈l,c.length=esz)→l.flatten.length=l.length*esz:=by
        intro l
        induction l with
        |nil=>intro _;simp
        |cons x l ih=>intro hx;rw [List.flatten_cons,gA5,gA3,ih fun c I=>hx c (by simp [I]),hx x (by simp),gC3];omega
       exact this rows hlen
      have hle1:σ1.le fun b q=>if b=g∧q<rows.length*esz then C[q]? else σ1 b q:=fun b q v hv=>by
       have: ¬(b=g∧q<rows.length*esz):=fun e=>by rw [e.1,T] at hv;cases hv
       simp only [if_neg this];exact hv
      have hx2:Ext G.σ (fun b q=>if b=g∧q<rows.length*esz then C[q]? else σ1 b q) w.heap.size:=⟨hx.1.trans hle1,fun b q hb=>by
       simp only;rw [if_neg (fun e=>by omega)];exact hx.2 b q hb⟩
      have hh2:Holds (fun b q=>if b=g∧q<rows.length*esz then C[q]? else σ1 b q) w' :=fun b q v hv=>by
       simp only at hv;split at hv
       ·rename_i e
        rw [e.1,cell_of_row w' g q C e' (0,0) hg];exact hv
       ·exact hh b q v hv
      have h2:=(h.world hb hx2 hh2).bump d;have hle:rows.length*esz≤cp*esz:=Nat.mul_le_mul_right _ R
      have hrel2:Rel1 (fun b q=>if b=g∧q<rows.length*esz then C[q]? else σ1 b q) (.slice (some ⟨g,0,none⟩) rows.length cp) (.lst .any esz rows):=by
       refine .lst .any esz rows _ _ cp g 0 (fun i j=>C.getD (i*esz+j) undef) rfl R (fun _=>rfl) (fun i c I=>hlen c (gA2 I)) (fun i j hi hj=> ?_) (fun i j c x I hx=> ?_) trivial
       ·have h1:(i+1)*esz≤rows.length*esz:=Nat.mul_le_mul_right _ (by omega)
        rw [gC3] at h1;have hlt:i*esz+j<C.size:=by omega
        rw [Nat.zero_add];simp only;rw [if_pos ⟨trivial,by omega⟩,Array.getElem?_eq_getElem hlt,Array.getD,dif_pos hlt];rfl
       ·have hat: ∀(l:List (List AV)) (i:Nat),(∀c∈l,c.length=esz)→l[i]? =some c→l.flatten[i*esz+j]? =some x:=by
         intro l
         induction l with
         |nil=>intro i _ h;simp at h
         |cons y l ih=>
          intro i hl I;have hy:=hl y (by simp);rw [List.flatten_cons];cases i with
          |zero=>
           simp at I;subst I;rw [Nat.zero_mul,Nat.zero_add,gC1 (gA0 hx).1];exact hx
          |succ i=>
           rw [gC2 (by rw [hy,gC3];omega),hy,show (i+1)*esz+j-esz=i*esz+j by rw [gC3];omega];exact ih i (fun c I=>hl c (by simp [I])) (by simpa using I)
        obtain ⟨v,hv1,hv2⟩:=(hr.mono hle1).at_ (hat rows i hlen I);rw [List.getElem?_take] at hv1;split at hv1
        ·have:C[i*esz+j]? =some v:=by simpa using hv1
         simp only [Array.getD_eq_getD_getElem?,this];exact hv2
        ·cases hv1
      refine Exists.elim (Conc.appEnd (s0:=d) (G:=G) h2 (hn d hd) (fun xx hq=>by have:=h.rlt _ _ _ hq;omega) hrel2 (pf (Nat.lt_of_lt_of_le (hn d hd) h.small)) (.inr ⟨g,cp,rfl,⟨.inl (gB7 h.lt hge),e',C,hg,⟨R,Bl (pf (Nat.lt_of_lt_of_le (hn d hd) h.small))⟩,⟨hsz,hone⟩,fun j hj=> ?_⟩,fun id hid=>by have:=h.Blt id g hid;omega,fun s' r' hs' e=> ?_,fun k x hk e=>by have:=((h.phi k x hk).1.2).lt;omega⟩)) (fun G' hG' => ?_)
      ·simp only at hj⊢
       rw [if_neg (fun e=>by omega)];exact T j
      ·rw [ax] at hs'
       split at hs'
       ·rename_i es;subst es;have:=h.rlt _ _ _ hs';omega
       ·have:=h.ρlt s' r' hs';omega
      ·rw [hd]
       exact hk _ _ _ hG'
     ·cases U
    ·cases U
   ·split at hi<;>(cases hi;cases hie)
 ·cases hi
end
end
section
open Go.RowKit
section
variable {P:Program} {mu:List Nat} {E:Env} {G:Gho} {fr fr' :Fr} {st st' :St} {a:Act} {w:World} {o:Oper} {K:Act→World→Prop} {Q:Exit→Act→World→Prop} {p:Prop} {rs:Option RS} {i:AI} {gs:Bool}
theorem sim (h:Conc E G fr st a w) (hi:aW P mu gs o=some i) (C:aj P i rs fr st=some (fr',st',p)) (J:p) (hn: ∀d,o.dst=some d→d<E.n) (I:Then E fr' st' K):o.wp P a w K Q:=by
 have bad:(aW P mu gs o=none)→o.wp P a w K Q:=fun e=>by rw [e] at hi;cases hi
 cases g:o.op with
 |move x=>exact FN h (.inl g) hi C J hn I
 |assign x=>exact FN h (.inr g) hi C J hn I
 |pick c x y=>exact IJ h g hi C J hn I
 |alloc t=>
  cases hbT:Nat.beq t bT with
  |false=>exact GN h g hbT hi C hn I
  |true=>
   unfold aW at hi;rw [g] at hi;simp only [hbT] at hi;split at hi
   ·rename_i d hd
    cases hi;exact mn h (mo:= .bld t) (xs:= []) (ts:= []) (fun nx w' hr=>by unfold execOp;rw [g];exact hr) hd.symm (fun e=>by cases e) rfl C J hn I
   ·cases hi
 |box t x=>exact KU h g hi C hn I
 |build t ps=>exact GO h g hi C hn I
 |buildSlice t n ps=>exact K1 h g hi C hn I
 |load t x=>exact MG h g hi C J hn I
 |store t x y=>exact MH h g hi C J I
 |binOp op t x y t' =>exact KP h g hi C J hn I
 |unOp op t x=>exact ME h g hi C hn I
 |convert s t x=>exact IP h g hi C J hn I
 |makeFunc fn first cap=>exact IW h g hi C hn I
 |slice t x lo hi' mx=>exact K2 h g hi C J hn I
 |fieldAddr t x j=>exact KQ h g hi C hn I
 |nilCheck x=>exact IK h g hi C hn I
 |indexAddr t x y=>exact KR h g hi C J hn I
 |index t x y=>exact IL h g hi C J hn I
 |extract x j=>exact KT h g hi C hn I
 |lookup t x y ok=>
  unfold aW at hi;rw [g] at hi;simp only at hi;split at hi
  ·rename_i d hd
   split at hi
   ·rename_i ys hys
    cases hi;exact mn h (mo:= .get t ok) (xs:= [x,y]) (fun nx w' hr=>by unfold execOp;rw [g];exact hr) hd.symm (fun e=>by cases e) hys C J hn I
   ·cases hi
  ·cases hi
 |mapUpdate t x y z=>
  unfold aW at hi;rw [g] at hi;simp only at hi;split at hi
  ·rename_i hd
   split at hi
   ·rename_i ys hys
    cases hi;exact mn h (mo:= .set t) (xs:= [x,y,z]) (fun nx w' hr=>by unfold execOp;rw [g];exact hr) hd.symm (fun _=>hd) hys C J hn I
   ·cases hi
  ·cases hi
 |makeMap t r=>
  cases r with
  |some r=>exact bad (by unfold aW;rw [g])
  |none=>
   unfold aW at hi;rw [g] at hi;simp only at hi;split at hi
   ·rename_i d hd
    cases hi;exact mn h (mo:= .new t) (xs:= []) (ts:= []) (fun nx w' hr=>by unfold execOp;rw [g];exact hr) hd.symm (fun e=>by cases e) rfl C J hn I
   ·cases hi
 |call c=>
  cases hc:c.callee with
  |value f=>
   by_cases hco: ∃d f args,i= .callo d f args
   ·exact GR h g hc hi C J hn hco I
   ·exact IV h g hc hi C J hn (fun d f args e=>hco ⟨d,f,args,e⟩) I
  |invoke r m=>exact bad (by unfold aW;rw [g];simp only [hc])
  |builtin b=>
   cases b with
   |len=>
    by_cases hmo: ∃mo d ys,i= .mop mo d ys
    ·unfold aW at hi
     rw [g] at hi;simp only [hc] at hi;split at hi
     ·rename_i d x t hd R T
      have U:c.args= #[x]:=Array.toList_inj.1 R;have htys:c.argTypes= #[t]:=Array.toList_inj.1 T;split at hi
      ·cases hi;obtain ⟨_,_,_,e⟩:=hmo;cases e
      ·cases hi;obtain ⟨_,_,_,e⟩:=hmo;cases e
      ·rename_i x' _ _ hx hu
       cases hi;refine mn h (mo:= .len t o.type) (xs:= [x]) (ts:= [t]) (fun nx w' hr=> ?_) hd.symm (fun e=>by cases e) (by unfold bS;simp [hx,bS]) C J hn I;simpa [execOp,g,resolve,hc,U,htys,invoke,builtin,FJ] using hr
      ·cases hi
     ·cases hi
    ·exact IM h g hc hi C hn (fun mo d ys e=>hmo ⟨mo,d,ys,e⟩) I
   |delete=>
    unfold aW at hi;rw [g] at hi;simp only [hc] at hi;split at hi
    ·rename_i x y t k R T
     have U:c.args= #[x,y]:=Array.toList_inj.1 R;have htys:c.argTypes= #[t,k]:=Array.toList_inj.1 T;split at hi
     ·rename_i ys hys
      cases hi;refine mn h (mo:= .del t k o.type) (xs:= [x,y]) (fun nx w' hr=> ?_) rfl (fun e=>by cases e) hys C J hn I;simpa [execOp,g,resolve,hc,U,htys,invoke,builtin,FJ] using hr
     ·cases hi
    ·cases hi
   |append=>
    by_cases hap: ∃d e b x y,i= .appr d e b x y
    ·exact IY h g hc hi C J hn hap I
    ·exact K3 h g hc hi C J hn (fun d e b x y e' =>hap ⟨d,e,b,x,y,e'⟩) I
   |max=>exact IN h g (.inl hc) hi C hn I
   |min=>exact IN h g (.inr hc) hi C hn I
   |_=>exact bad (by unfold aW;rw [g];simp only [hc])
 |range t x=>
  unfold aW at hi;rw [g] at hi;simp only at hi;split at hi
  ·cases hi;cases C
  ·cases hi
 |next x b=>
  cases b with
  |true=>exact bad (by unfold aW;rw [g])
  |false=>
   unfold aW at hi;rw [g] at hi;simp only at hi;split at hi
   ·cases hi;cases C
   ·cases hi
 |entry x=>
  unfold aW at hi;rw [g] at hi;simp only at hi;split at hi
  ·cases hi;cases C
  ·cases hi
 |_=>exact bad (by unfold aW;rw [g])
theorem IZ (b w:Bool):(some b==some w)=gd b w:=by cases b<;>cases w<;>rfl
theorem mq: ∀{l r:List Bool},uL l=some r→r=l
 | [],r,h=>by cases h;rfl
 |b::l,r,h=>by
  simp only [uL] at h;split at h
  ·rename_i r' hr
   cases h;rw [mq hr]
  ·cases h
theorem Bv {p:Array Oper} {g:Option (Nat×Bool)} (hg:jO p o=some g) (r:(⟨g,i⟩:GI).ctx fr=some none):Region.wanted o (yielded p a.tmps)=true:=by
 unfold jO at hg;unfold Region.wanted;split at hg
 ·rename_i hn
  rw [hn]
 ·rename_i j want C
  split at hg
  ·cases hg
   simp only [GI.ctx] at r;split at r<;>cases r
  ·cases hg
theorem u7 (h:Conc E G fr st a w) {p:Array Oper} {g:Option (Nat×Bool)} (hg:jO p o=some g) {c:Bool} (r:(⟨g,i⟩:GI).ctx fr=some (some c)):Region.wanted o (yielded p a.tmps)=c:=by
 unfold jO at hg;unfold Region.wanted;split at hg
 ·cases hg;cases r
 ·rename_i j want P
  rw [P];split at hg
  ·rename_i d R
   cases hg
   have key: ∀lit,a.tmps.getD d undef= .bool lit→yielded p a.tmps j=some lit:=by
    intro lit I;unfold yielded;rw [R];simp only [Option.bind_some];cases J:a.tmps[d]? with
    |none=>simp [Array.getD_eq_getD_getElem?,J,undef] at I
    |some v=>
     have:v= .bool lit:=by simpa [Array.getD_eq_getD_getElem?,J] using I
     rw [this]
   have C:a.tmps.getD d undef=undef→yielded p a.tmps j=none:=by
    intro I;unfold yielded;rw [R];simp only [Option.bind_some];cases J:a.tmps[d]? with
    |none=>rfl
    |some v=>
     have:v=undef:=by simpa [Array.getD_eq_getD_getElem?,J] using I
     rw [this];rfl
   simp only [GI.ctx] at r;split at r
   ·rename_i b hl
    cases r;simp only;rw [key _ (h.slots d _ hl).bool,IZ]
   ·rename_i c0 b hl
    cases r;cases c0 with
    |true=>
     have T:RelS G (a.tmps.getD d undef) (.bool b):=(h.slots d _ hl).1 rfl;simp only;rw [key _ T.bool,IZ,Bool.true_and]
    |false=>
     simp only;rw [C ((h.slots d _ hl).2 rfl)];rfl
   ·cases r
  ·cases hg
theorem pn {s:Nat}: ∀{l:List Nat},bO s l=true↔s∈l
 | []=>by simp [bO]
 |x::l=>by
  simp only [bO,List.mem_cons];split
  ·rename_i hb
   simp [Nat.eq_of_beq_eq_true hb]
  ·rename_i hb
   have:s≠x:=fun e=>by rw [e,Nat.beq_refl] at hb;cases hb
   simp [this,pn]
theorem mr {fr:Fr}: ∀{l:List Nat},GM (fL fr l)→ ∀s∈l,∀c x,fr s=some (.when c x)→c=true
 | [],_,s,g,_,_,_=>by cases g
 |y::l,h,s,g,c,x,i=>by
  simp only [fL] at h;rcases gB2 g with rfl|g
  ·rw [i] at h
   exact h.1
  ·split at h
   ·exact mr h.2 s g c x i
   ·exact mr h s g c x i
theorem Conc.unwr (h:Conc E G fr st a w) {l:List Nat} (p:GM (fL fr l)):Conc E G (Proofs.YtbgflifmanjpjaaGreatDoor.unwr fr l) st a w:=
 { h with
   slots:=fun s x g=>by
    unfold Proofs.YtbgflifmanjpjaaGreatDoor.unwr at g;split at g
    ·rename_i r
     split at g
     ·rename_i c y hy
      split at g
      case h_2=>cases g;exact h.slots s _ hy
      cases g;have j:=(h.slots s _ hy).1 (mr p s (pn.1 r) c _ hy)
      cases x<;>first
       |exact j
       |exact j.elim
     ·exact h.slots s x g
    ·exact h.slots s x g
   pnone:=fun k i=>h.pnone k (by
    unfold Proofs.YtbgflifmanjpjaaGreatDoor.unwr at i;split at i
    ·split at i
     ·split at i<;>cases i
     ·exact i
    ·exact i)}
theorem Conc.rewr {l:List Nat} {d:Nat} {v:AV} {c:Bool} (I:GM (fL fr l)) (J:c=true) (P:v.isWhen=false) (h:Conc E G (aG (Proofs.YtbgflifmanjpjaaGreatDoor.unwr fr l) d v) st a w):Conc E G (upd fr d (some (.when c v))) st a w:=
 { h with
   slots:=fun s x i=>by
    have g:=h.slots s;simp only [aG,ax] at i g;split at i
    ·rename_i e
     cases i;rw [if_pos e] at g;have p:=g v rfl;refine ⟨fun _=> ?_,(fun e=>by rw [J] at e;cases e)⟩
     cases v<;>first
      |exact p
      |cases P
    ·rename_i e
     rw [if_neg e] at g;unfold Proofs.YtbgflifmanjpjaaGreatDoor.unwr at g;split at g
     ·rename_i R
      cases x with
      |when c' y=>
       rw [i] at g;simp only at g;split at g
       ·rename_i r
        have C:=mr I s (pn.1 R) c' y i;have p:=g y rfl;refine ⟨fun _=> ?_,(fun e=>by rw [C] at e;cases e)⟩
        cases y<;>first
         |exact p
         |cases r
       ·exact g _ rfl
      |_=>
       rw [i] at g;exact g _ rfl
     ·exact g x i
   pnone:=fun k j=>h.pnone k (by
    simp only [aG,ax] at j⊢;split at j
    ·cases j
    ·rename_i e
     rw [if_neg e];unfold Proofs.YtbgflifmanjpjaaGreatDoor.unwr;rw [j];split<;>rfl)}
theorem GS {i:AI} (g:i.still=true) {d:Nat} (j:i.dst=some d) {rs:Option RS} {fr f:Fr} {st s:St} {p:Prop} (h:aj P i rs fr st=some (f,s,p)):s=st∧ ∃v,f=aG fr d v:=by
 unfold AI.still at g;cases i<;>simp only [AI.cl,Bool.false_eq_true] at g<;>simp only [AI.dst,reduceCtorEq,gB9] at j
 all_goals
  (first|subst j|skip)
  simp only [aj] at h
  (repeat' (split at h))<;>first
   |(cases h;exact ⟨rfl,_,rfl⟩)
   |(cases h;done)
   |(cases h;refine ⟨rfl,_,(congrArg (fun k=>aG fr k _) (Option.some.inj (by assumption:some d=some _))).symm⟩)
   |(cases h;cases j)
theorem GT {x y:Option Nat} (h:FL x y=true):x=y:=by
 cases x with
 |none=>cases y with
  |none=>rfl
  |some b=>cases h
 |some a=>cases y with
  |none=>cases h
  |some b=>rw [Nat.eq_of_beq_eq_true h]
def At (P:Program) (mu:List Nat) (g:Array Oper) (i:List GI):Prop:=i.length=g.size∧ ∀(k:Nat) o x,g[k]? =some o→i[k]? =some x→jO g o=some x.g∧aW P mu (zH g k) o=some x.i∧x.i.dst=o.dst
theorem I0 {p:Array Oper}: ∀{l:List Oper} {k:Nat} {C:List GI},sh P mu p k l=some C→C.length=l.length∧ ∀(j:Nat) o x,l[j]? =some o→C[j]? =some x→jO p o=some x.g∧aW P mu (zH p (k+j)) o=some x.i∧x.i.dst=o.dst
 | [],k,C,h=>by cases h;exact ⟨rfl,fun j o x I=>by simp at I⟩
 |o::l,k,C,h=>by
  unfold sh at h;split at h
  ·rename_i g i r hg hi hr
   split at h
   ·rename_i R
    cases h;obtain ⟨T,U⟩:=I0 hr;refine ⟨by simp [T],fun j o' x I J=> ?_⟩;cases j with
    |zero=>simp at I J;subst I J;exact ⟨hg,hi,GT R⟩
    |succ j=>
     have:=U j o' x (by simpa using I) (by simpa using J);rw [show k+(j+1)=k+1+j by omega];exact this
   ·cases h
  ·cases h
theorem po {g:Array Oper} {i:List GI} (h:sh P mu g 0 g.toList=some i):At P mu g i:=by
 obtain ⟨j,p⟩:=I0 h;refine ⟨by simpa using j,fun k o x r C=> ?_⟩;have:=p k o x (by simpa using r) C
 rwa [Nat.zero_add] at this
theorem MJ (h:Conc E G fr st a w) {J:Array Oper} {gl:List GI} (hat:At P mu J gl) {k:Nat} {o:Oper} {x:GI} (ho:J[k]? =some o) (hx:gl[k]? =some x) (j:bj P x rs fr st=some (fr',st',p)) (hp:p) (hn: ∀d,x.i.dst=some d→d<E.n) (hk:Then E fr' st' K):
  if Region.wanted o (yielded J a.tmps) then o.wp P a w K Q else K (a.put o.dst undef) w:=by
 obtain ⟨h1,h2,h3⟩:=hat.2 k o x ho hx;obtain ⟨g,ai⟩:=x;unfold bj at j;split at j
 ·rename_i U
  rw [Bv (i:=ai) h1 U,if_pos rfl];exact sim h h2 j hp (fun d C=>hn d (by rw [←C];exact h3)) hk
 ·rename_i c U
  split at j
  ·rename_i d hst C
   split at j
   ·rename_i fr2 s2 p2 ha
    split at j
    ·rename_i v hv
     split at j
     ·rename_i bs hnw R
      have r:=mq R;subst r;cases j;obtain ⟨e1,v2,e2⟩:=GS hst C ha;subst e1 e2;unfold aG at hv;rw [cf] at hv;cases hv;cases c with
      |true=>
       obtain ⟨T,I⟩:=hp rfl;rw [u7 (i:=ai) h h1 U,if_pos rfl];exact sim (h.unwr I) h2 ha T (fun d C=>hn d (by rw [←C];exact h3)) fun G' a' w' hC=>hk _ _ _ (hC.rewr I rfl hnw)
      |false=>
       rw [u7 (i:=ai) h h1 U,if_neg (by simp),←h3,C];exact hk _ _ _ (h.putW (hn d C) ⟨(fun e=>by cases e),fun _=>rfl⟩)
     ·cases j
    ·cases j
   ·cases j
  ·split at j
   ·split at j
    ·rename_i ha
     split at j
     ·rename_i bs R
      have r:=mq R;subst r;cases j;obtain ⟨hc1,T,I⟩:=hp;subst hc1;rw [u7 (i:=ai) h h1 U,if_pos rfl];exact sim (h.unwr I) h2 ha T (fun d C=>hn d (by rw [←C];exact h3)) hk
     ·cases j
    ·cases j
   ·cases j
 ·cases j
def gD (P:Program):List (GI×Option RS)→Fr→St→Option (Fr×St×Prop)
 | [],fr,st=>some (fr,st,True)
 |(x,rs)::l,fr,st=>match bj P x rs fr st with
  |some (fr,st,p)=>match gD P l fr st with
   |some (fr,st,q)=>some (fr,st,p∧q)
   |none=>none
  |none=>none
theorem sk {i:AI} {rs:Option RS} {fr f:Fr} {st s:St} {p:Prop} (g:i.silent=true) (hl:i.loud fr=false) (h:aj P i rs fr st=some (f,s,p)):p:=by
 cases i<;>simp only [AI.silent,Bool.false_eq_true] at g
 case bin d op bt x y=>
  simp only [aj] at h;split at h
  ·split at h
   ·rename_i u v _ _ c q hb
    cases h;unfold IE at hb;split at hb
    ·split at hb
     ·cases g
     ·cases g
     ·split at hb
      ·cases op<;>simp only [Bool.false_eq_true] at g<;>(cases hb;trivial)
      ·cases hb
    ·cases op<;>simp only [Bool.false_eq_true] at g<;>first|(cases hb;trivial)|cases hb
    ·split at hb
     ·cases op<;>simp only [Bool.false_eq_true] at g<;>first|(cases hb;trivial)|cases hb
     ·cases hb
    ·cases hb
   ·cases h
  ·cases h
 all_goals
  simp only [aj] at h
  (repeat' (split at h))<;>first
   |(cases h;trivial)
   |(cases h;done)
   |(exfalso;simp [AI.loud, *] at hl)
theorem Bw {i:AI} (h:i.silent=true):i.cl≠ .hard:=by
 cases i<;>simp [AI.silent,AI.cl] at h⊢
theorem D1 {x:GI} {rs:Option RS} {fr f:Fr} {st s:St} {p:Prop} (g:x.quiet fr=true) (h:bj P x rs fr st=some (f,s,p)):p:=by
 unfold GI.quiet at g;split at g
 ·rename_i i
  unfold bj at h;split at g
  ·rename_i j
   rw [j] at h;exact sk i (by simpa using g) h
  ·rename_i c j
   rw [j] at h;simp only at h;split at g
   ·rename_i J
    split at h
    ·split at h
     ·rename_i r
      split at h
      ·split at h
       ·rename_i R _ C
        cases h;exact fun _=>⟨sk i (by simpa using g) r,by rw [mq C,J];trivial⟩
       ·cases h
      ·cases h
     ·cases h
    ·split at h
     ·rename_i I
      exact absurd I (Bw i)
     ·cases h
   ·cases g
  ·cases g
 ·cases g
theorem bI: ∀{T:List GI} {rs g:List RS} {fr fr' :Fr} {st st' :St} {p:Prop},iS P T rs fr st=some (g,fr',st',p)→ ∃l:List (GI×Option RS),l.map (·.1)=T∧ ∃q,gD P l fr st=some (fr',st',q)∧(p→q)
 | [],rs,g,fr,fr',st,st',p,h=>by cases h;exact ⟨[],rfl,_,rfl,id⟩
 |x::T,rs,g,fr,fr',st,st',p,h=>by
  unfold iS at h;split at h
  ·split at h
   ·rename_i r rs0
    split at h
    ·rename_i U s1 C j
     split at h
     ·rename_i r2 f2 s2 q2 hr
      cases h;obtain ⟨l,I,q,J,R⟩:=bI hr;refine ⟨(x,some r)::l,by simp [I],C∧q,?_,fun i=>⟨i.1,R i.2⟩⟩;simp only [gD,j,J]
     ·cases h
    ·cases h
   ·cases h
  ·split at h
   ·rename_i U s1 C hq j
    obtain ⟨l,I,q,J,R⟩:=bI h;refine ⟨(x,none)::l,by simp [I],C∧q,?_,fun i=>⟨D1 hq j,R i⟩⟩;simp only [gD,j,J]
   ·rename_i U s1 C hq j
    split at h
    ·rename_i r2 f2 s2 q2 hr
     cases h;obtain ⟨l,I,q,J,R⟩:=bI hr;refine ⟨(x,none)::l,by simp [I],C∧q,?_,fun i=>⟨i.1,R i.2⟩⟩;simp only [gD,j,J]
    ·cases h
   ·cases h
def gE (n:Nat) (g:List GI):Bool:=g.all fun x=>match x.i.dst with|some d=>Nat.blt d n|none=>true
theorem dy {n:Nat} {g:List GI} (h:gE n g=true) {k:Nat} {x:GI} (i:g[k]? =some x): ∀d,x.i.dst=some d→d<n:=by
 intro d j;have:=List.all_eq_true.1 h x (gA2 i);rw [j] at this;simp only at this;have p:Nat.ble (d+1) n=true:=this;exact Nat.le_of_ble_eq_true p
theorem mw {g:Array Oper} {C:List GI} (r:At P mu g C) (J:gE E.n C=true) (R: ∀G a w,Conc E G fr' st' a w→Q .normal a w):
  ∀{l:List (GI×Option RS)} {k:Nat} {fr:Fr} {st:St} {p:Prop} {G:Gho} {a:Act} {w:World},(∀j,(l.map (·.1))[j]? =C[k+j]?)→k+l.length=g.size→gD P l fr st=some (fr',st',p)→p→Conc E G fr st a w→
   wpOps P g Q (List.range' k l.length) a w
 | [],k,fr,st,p,G,a,w,_,_,i,_,h=>by cases i;exact R _ _ _ h
 |(x,rs)::l,k,fr,st,p,G,a,w,hl,hlen,i,T,h=>by
  unfold gD at i;split at i
  ·rename_i f1 s1 p1 h1
   split at i
   ·rename_i f2 s2 q2 h2
    cases i;have U:C[k]? =some x:=by simpa using (hl 0).symm
    have hk:k<g.size:=by simp at hlen;omega
    have ho:g[k]? =some g[k]:=Array.getElem?_eq_getElem hk;rw [gA3,List.range'_succ];simp only [wpOps,ho]
    have hg:=MJ (Q:=Q) (K:=wpOps P g Q (List.range' (k+1) l.length)) h r ho U h1 T.1 (dy J U) (fun G' a' w' hc=>mw r J R (fun j=>by
     have:=hl (j+1);simp only [List.map_cons,List.getElem?_cons_succ] at this;rw [this,show k+(j+1)=k+1+j by omega]) (by simp at hlen;omega) h2 T.2 hc)
    split at hg
    ·rename_i I;rw [if_pos I];exact .inl hg
    ·rename_i I;rw [if_neg I];exact hg
   ·cases i
  ·cases i
end
end
end Go.Proofs.YtbgflifmanjpjaaGreatDoor
