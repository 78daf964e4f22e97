/-
  The texts that the claim wants, one behind the other: part 5.
-/
import Derived.Test.YtgidajjjpeboeaaGreatDoorS4
import Derived.Orders
set_option linter.unusedSimpArgs false
set_option linter.unusedVariables false
namespace Go.Proofs.YtgidajjjpeboeaaGreatDoor
open Go.RowKit
section
variable {P : Program} {mu : List Nat} {E : Env} {G : Gho} {fr fr' : Fr} {st st' : St} {a : Act} {w : World} {o : Oper} {K : Act → World → Prop} {Q : Exit → Act → World → Prop} {p : Prop} {rs : Option RS} {i : AI} {gs : Bool}
theorem foldl_set (off : Nat) : ∀ (vs : List Value) (k : Nat) (cells : Array Value), off + k + vs.length ≤ cells.size →
  ((vs.zipIdx k).foldl (fun cs (x : Value × Nat) => cs.setIfInBounds (off + x.2) x.1) cells).toList = cells.toList.take (off + k) ++ vs ++ cells.toList.drop (off + k + vs.length)
 | [], k, cells, _ => by simp
 | v :: vs, k, cells, h => by
  simp only [List.zipIdx_cons, List.foldl_cons]
  rw [foldl_set off vs (k + 1) _ (by simp at h ⊢; omega)]
  have e := list_seg_step cells.toList (off + k) v vs (by simp at h ⊢; omega)
  simpa [Array.toList_setIfInBounds, Nat.add_assoc] using e
theorem fill_rel (h : Conc E G fr st a w) {place : Nat → Option (Nat × Nat × TypeId)} {place' : Nat → Option (Nat × Nat)} (hpl : ∀ i off size t, place i = some (off, size, t) → place' i = some (off, size)) :
  ∀ {ps : List (Nat × Operand)} {aps : List (Nat × Nat × Opd)} {zs cs : List AV} {zv : Array Value}, partsOf P place ps = some aps → afill fr zs aps = some cs → RelL G.σ zv.toList (zs.map AV.unown) → TagsOk G zv.toList zs →
   ∃ cells, Instr.fill place' zv (ps.map fun x => (x.1, a.eval x.2)) = some cells ∧ RelL G.σ cells.toList (cs.map AV.unown) ∧ TagsOk G cells.toList cs
 | [], aps, zs, cs, zv, h1, h2, h3, h4 => by
  cases h1
  cases h2
  exact ⟨zv, rfl, h3, h4⟩
 | (i, x) :: ps, aps, zs, cs, zv, h1, h2, h3, h4 => by
  unfold partsOf at h1
  split at h1
  ·rename_i off size t hp
   split at h1
   ·rename_i y l hy hl hb
    cases h1
    unfold afill at h2
    split at h2
    ·rename_i c hc
     split at h2
     ·rename_i cs' hcs
      split at h2
      ·rename_i hbq
       split at h2
       ·rename_i zs' hsp
        obtain ⟨r1, r2⟩ := (h.ev hy hc).cells hcs
        have hsz := Nat.eq_of_beq_eq_true hbq
        have hpos : 1 ≤ size := Nat.le_of_ble_eq_true hb
        obtain ⟨q1, q2, q3⟩ := splice_spec hsp
        have hne : cs' ≠ [] := fun e => by rw [e] at hsz; simp at hsz; omega
        have hle := q2 hne
        have hvl : zv.toList.length = zs.length := by simpa using h3.1
        have hul : (a.eval x).cells.toList.length = cs'.length := by simpa using r1.1
        have hsp2 := h3.splice h4 r1 r2 hsp (by rw [hvl, hul]; exact hle)
        have hfold : ((a.eval x).cells.zipIdx.foldl (fun cs (x : Value × Nat) => cs.setIfInBounds (off + x.2) x.1) zv).toList = zv.toList.take off ++ (a.eval x).cells.toList ++ zv.toList.drop (off + (a.eval x).cells.toList.length) := by
         have := foldl_set off (a.eval x).cells.toList 0 zv (by simp at hvl hul ⊢; omega)
         rw [← Array.foldl_toList, Array.toList_zipIdx]
         simpa using this
        rw [← hfold] at hsp2
        obtain ⟨cells, k1, k2, k3⟩ := fill_rel h hpl hl h2 hsp2.1 hsp2.2
        refine ⟨cells, ?_, k2, k3⟩
        simp only [List.map_cons, Instr.fill, hpl i off size t hp]
        have e1 : ((a.eval x).cells.size ≠ size || decide (off + (a.eval x).cells.size > zv.size)) = false := by
         simp at hvl hul ⊢
         omega
        rw [if_neg (by simpa using e1)]
        exact k1
       ·cases h2
      ·cases h2
     ·cases h2
    ·cases h2
   ·cases h1
  ·cases h1
theorem zero_rel {t : TypeId} {z : List AV} (hz : zeroAV P t = some z) : ∃ inf v, P.info? t = some inf ∧ inf.zero = some v ∧ RelL G.σ v.cells.toList (z.map AV.unown) ∧ TagsOk G v.cells.toList z := by
 unfold zeroAV at hz
 split at hz
 ·rename_i inf hinf
  split at hz
  ·rename_i v hv
   obtain ⟨h1, h2⟩ := zeroCells_rel (G := G) hz
   exact ⟨inf, v, hinf, hv, h1, h2⟩
  ·cases hz
 ·cases hz
theorem sim_build (h : Conc E G fr st a w) {t : TypeId} {ps : Array (Nat × Operand)} (ho : o.op = .build t ps) (hi : opAI P mu gs o = some i) (hs : astep P i rs fr st = some (fr', st', p)) (hn : ∀ d, o.dst = some d → d < E.n) (hk : Then E fr' st' K) : o.wp P a w K Q := by
 unfold opAI at hi
 rw [ho] at hi
 simp only at hi
 split at hi
 ·rename_i d z fs hd hz hu
  split at hi
  ·rename_i pl hpl
   split at hi
   ·rename_i l hl
    cases hi
    simp only [astep] at hs
    split at hs
    ·rename_i cs hcs
     cases hs
     obtain ⟨inf, zv, hinf, hzv, hz1, hz2⟩ := zero_rel (G := G) hz
     obtain ⟨cells, k1, k2, k3⟩ := fill_rel h (place' := (pl.toArray[·]?)) (fun i off size t' hp => by
      split at hp
      ·rename_i h1 h2; cases hp; exact h1
      ·cases hp) hl hcs hz1 hz2
     have hb : P.built t (ps.toList.map fun x => (x.1, a.eval x.2)) = some cells := by
      simp only [Program.built, hinf, hu, hzv, hpl]
      exact k1
     have hrun := run_build (P := P) w t (ps.map fun x => (x.1, a.eval x.2)) cells (by simpa using hb)
     exact sim_value h (v := .agg cells) (by simp [execOp, ho, hrun]) hd (hn d hd) (x := .agg cs) ⟨cells.toList, by simp, k2, k3⟩ hk
    ·cases hs
   ·cases hi
  ·cases hi
 ·cases hi
theorem chunk_spec {esz : Nat} : ∀ {n : Nat} {cs : List AV} {l : List (List AV)}, chunk esz n cs = some l → cs.length = n * esz ∧ l.length = n ∧ ∀ (i : Nat) (c : List AV), l[i]? = some c → c = ((cs.drop (i * esz)).take esz).map AV.plain ∧ c.length = esz
 | 0, [], l, h => by cases h; exact ⟨by simp, rfl, fun i c hc => by simp at hc⟩
 | 0, _ :: _, l, h => by cases h
 | n + 1, cs, l, h => by
  unfold chunk at h
  split at h
  ·rename_i c cs' h1 h2
   split at h
   ·rename_i r hr
    cases h
    obtain ⟨a1, a2⟩ := takeN_spec h1
    obtain ⟨b1, b2⟩ := dropN_spec h2
    obtain ⟨c1, c2, c3⟩ := chunk_spec hr
    refine ⟨?_, by simp [c2], fun i c' hc' => ?_⟩
    ·rw [b1, List.length_drop] at c1
     rw [Nat.add_mul]
     omega
    ·cases i with
     | zero => simp at hc'; subst hc'; exact ⟨by rw [a1]; simp, by simp [a2]⟩
     | succ i =>
      obtain ⟨d1, d2⟩ := c3 i c' (by simpa using hc')
      refine ⟨?_, d2⟩
      rw [d1, b1, List.drop_drop, Nat.add_mul, Nat.one_mul, Nat.add_comm]
   ·cases h
  ·cases h
theorem Conc.newrow (h : Conc E G fr st a w) (vs : Array Value) (t : TypeId) : Conc E { G with σ := fun b q => if b = w.heap.size then vs[q]? else G.σ b q } fr st a (w.alloc (.cells vs t)) := by
 refine h.world ((Below.refl _ _).alloc (Nat.le_refl _) _) ⟨fun b q v hv => ?_, fun b q hb => if_neg (by omega)⟩ fun b q v hv => ?_
 ·have : b ≠ w.heap.size := fun e => by rw [e, h.fresh] at hv; cases hv
  simp only [if_neg this]
  exact hv
 ·split at hv
  ·rename_i e
   subst e
   rw [World.cell?_alloc_at _ _ _ _ rfl]
   exact hv
  ·have h1 := h.hold b q v hv
   rw [World.cell?_alloc_lt w _ _ (World.block_lt_of_cell? w _ h1)]
   exact h1
theorem Conc.newrow_le (h : Conc E G fr st a w) (vs : Array Value) : G.σ.le fun b q => if b = w.heap.size then vs[q]? else G.σ b q := fun b q v hv => by
 have : b ≠ w.heap.size := fun e => by rw [e, h.fresh] at hv; cases hv
 simp only [if_neg this]
 exact hv
theorem flat_rep (z : List AV) : ∀ (n j : Nat), (List.replicate n z).flatten[j]? = if j < n * z.length then z[j % z.length]? else none
 | 0, j => by simp
 | n + 1, j => by
  rw [List.replicate_succ, List.flatten_cons]
  by_cases hj : j < z.length
  ·rw [List.getElem?_append_left hj, if_pos (by rw [Nat.add_mul]; omega), Nat.mod_eq_of_lt hj]
  ·rw [List.getElem?_append_right (by omega), flat_rep z n]
   rw [Nat.mod_eq_sub_mod (show j ≥ z.length by omega)]
   by_cases h2 : j - z.length < n * z.length
   ·rw [if_pos h2, if_pos (by rw [Nat.add_mul]; omega)]
   ·rw [if_neg h2, if_neg (by rw [Nat.add_mul]; omega)]
theorem zeros_rel {zv : Array Value} {z : List AV} (hz1 : RelL G.σ zv.toList (z.map AV.unown)) (hz2 : TagsOk G zv.toList z) (n size : Nat) (hsz : z.length = size) (hpos : 0 < size) (u : Array Value) (hu : u.size = n * size) (hc : ∀ j, j < n * size → u[j]? = zv[j % size]?) :
  RelL G.σ u.toList (((List.replicate n z).flatten).map AV.unown) ∧ TagsOk G u.toList (List.replicate n z).flatten := by
 subst hsz
 have hzl : zv.size = z.length := by simpa using hz1.1
 refine ⟨⟨by simp [hu, List.length_flatten], fun j v c hv hcc => ?_⟩, fun j v c hv hcc => ?_⟩
 ·rw [List.getElem?_map, flat_rep] at hcc
  have hj : j < n * z.length := by
   have := (List.getElem?_eq_some_iff.1 hv).1
   simp [hu] at this
   exact this
  rw [if_pos hj] at hcc
  have h1 : u[j]? = some v := by simpa using hv
  rw [hc j hj] at h1
  exact hz1.2 (j % z.length) v c (by simpa using h1) (by rw [List.getElem?_map]; exact hcc)
 ·rw [flat_rep] at hcc
  have hj : j < n * z.length := by
   have := (List.getElem?_eq_some_iff.1 hv).1
   simp [hu] at this
   exact this
  rw [if_pos hj] at hcc
  have h1 : u[j]? = some v := by simpa using hv
  rw [hc j hj] at h1
  exact hz2 (j % z.length) v c (by simpa using h1) hcc
theorem sim_bsl (h : Conc E G fr st a w) {t : TypeId} {n : Nat} {ps : Array (Nat × Operand)} (ho : o.op = .buildSlice t n ps) (hi : opAI P mu gs o = some i) (hs : astep P i rs fr st = some (fr', st', p)) (hn : ∀ d, o.dst = some d → d < E.n) (hk : Then E fr' st' K) : o.wp P a w K Q := by
 unfold opAI at hi
 rw [ho] at hi
 simp only at hi
 split at hi
 ·rename_i d e hd hu
  split at hi
  ·rename_i inf z hinf hz
   split at hi
   ·rename_i hcond
    obtain ⟨hpos, hbig, hzl⟩ := hcond
    split at hi
    ·rename_i l hl
     cases hi
     simp only [astep] at hs
     split at hs
     ·rename_i cs hcs
      split at hs
      ·rename_i rows hrows
       cases hs
       obtain ⟨inf', zv, hinf', hzv, hz1, hz2⟩ := zero_rel (G := G) hz
       rw [hinf] at hinf'
       cases hinf'
       have hzl2 : zv.cells.size = inf.size := by
        have : zv.cells.toList.length = z.length := by simpa using hz1.1
        simp at this
        omega
       generalize hu0 : ((Array.range (n * inf.size)).map ((if n * inf.size = 0 then (#[] : Array Value) else zv.cells)[· % (if n * inf.size = 0 then (#[] : Array Value) else zv.cells).size]!)) = u0
       have hus : u0.size = n * inf.size := by rw [← hu0]; simp
       have huc : ∀ j, j < n * inf.size → u0[j]? = zv.cells[j % inf.size]? := by
        intro j hj
        have hne : ¬ n * inf.size = 0 := by omega
        rw [← hu0, if_neg hne]
        have hlt : j % zv.cells.size < zv.cells.size := Nat.mod_lt _ (by omega)
        rw [Array.getElem?_map, Array.getElem?_range, if_pos hj]
        simp only [Option.map_some, hzl2]
        rw [hzl2] at hlt
        rw [getElem!_pos zv.cells _ (by omega), Array.getElem?_eq_getElem (by omega)]
       obtain ⟨zr1, zr2⟩ := zeros_rel hz1 hz2 n inf.size hzl hpos u0 hus huc
       obtain ⟨cells, k1, k2, k3⟩ := fill_rel h (place' := fun i => some (i * inf.size, inf.size)) (fun i off size t' hp => by cases hp; rfl) hl hcs zr1 zr2
       have hrun : (Instr.buildSlice t n (ps.map fun x => (x.1, a.eval x.2))).run P w = .ok (.slice (some ⟨w.heap.size, 0, none⟩) n n) (w.alloc (.cells cells e)) := by
        have hb2 : ¬ n * inf.size > 2 ^ 24 := by omega
        have k1' : Instr.fill (fun i => some (i * inf.size, inf.size)) u0 (ps.map fun x => (x.1, a.eval x.2)).toList = some cells := by simpa using k1
        by_cases h0 : n * inf.size = 0
        ·rw [if_pos h0] at hu0
         rw [← hu0] at k1'
         simp only [Instr.buildSlice, Sem.run_bind, run_underlying hu, Result.andThen_ok, sizeOf, typeInfo, run_program, hinf, Sem.run_pure, if_neg hb2, h0, if_true]
         rw [h0] at k1'
         rw [if_neg (by omega)]
         simp only [Sem.run_bind, Sem.run_pure, Result.andThen_ok]
         rw [k1']
         simp [newRow]
        ·rw [if_neg h0] at hu0
         rw [← hu0] at k1'
         simp only [Instr.buildSlice, Sem.run_bind, run_underlying hu, Result.andThen_ok, sizeOf, typeInfo, zeroValue, run_program, hinf, hzv, Sem.run_pure, if_neg hb2, if_neg h0]
         rw [k1']
         simp [newRow]
       obtain ⟨c1, c2, c3⟩ := chunk_spec hrows
       unfold Oper.wp
       have hrun2 : (execOp a.eval o).run P w = .ok (.value (.slice (some ⟨w.heap.size, 0, none⟩) n n)) (w.alloc (.cells cells e)) := by simp [execOp, ho, hrun]
       rw [hrun2, Oper.upon_value, hd]
       refine hk _ _ _ ((h.newrow cells e).put (hn d hd) (RelS.of1 ?_))
       have hcl : cells.size = n * inf.size := by
        have : cells.toList.length = cs.length := by simpa using k2.1
        simpa [c1] using this
       refine .lst .full inf.size rows _ n n w.heap.size 0 (fun i j => cells.getD (i * inf.size + j) undef) c2.symm (Nat.le_refl _) (fun _ => rfl) (fun i c hc => (c3 i c hc).2) (fun i j hi hj => ?_) (fun i j c x hc hx => ?_) rfl
       ·have hlt : i * inf.size + j < cells.size := by
         have : (i + 1) * inf.size ≤ n * inf.size := Nat.mul_le_mul_right _ hi
         rw [Nat.add_mul] at this
         omega
        simp only [if_true, Nat.zero_add]
        rw [Array.getElem?_eq_getElem hlt, Array.getD, dif_pos hlt]
        rfl
       ·obtain ⟨d1, d2⟩ := c3 i c hc
        rw [d1, List.getElem?_map, List.getElem?_take] at hx
        split at hx
        ·rw [List.getElem?_drop] at hx
         cases hq : cs[i * inf.size + j]? with
         | none => rw [hq] at hx; cases hx
         | some c0 =>
          rw [hq] at hx
          cases hx
          obtain ⟨v, hv1, hv2⟩ := k2.at_ (j := i * inf.size + j) (a := c0.unown) (by rw [List.getElem?_map, hq]; rfl)
          have hv3 : cells.getD (i * inf.size + j) undef = v := by
           have : cells[i * inf.size + j]? = some v := by simpa using hv1
           simp [Array.getD_eq_getD_getElem?, this]
          simp only [hv3]
          have := (hv2.mono (h.newrow_le cells)).plain
          rw [plain_unown] at this
          exact this
        ·cases hx
      ·cases hs
     ·cases hs
    ·cases hi
   ·cases hi
  ·cases hi
 ·cases hi
end
end Go.Proofs.YtgidajjjpeboeaaGreatDoor
/-
 The abstract walk: closures, parts of strings and slices.
-/
namespace Go.Proofs.YtgidajjjpeboeaaGreatDoor
open Go.RowKit
section
variable {P : Program} {mu : List Nat} {E : Env} {G : Gho} {fr fr' : Fr} {st st' : St} {a : Act} {w : World} {o : Oper} {K : Act → World → Prop} {Q : Exit → Act → World → Prop} {p : Prop} {rs : Option RS} {i : AI} {gs : Bool}
theorem Conc.freezeBox (h : Conc E G fr st a w) {id g : Nat} {cs : List AV} {fz : Bool} (hb : st.box id = some (cs, fz)) (hmp : isMp id = false) (hB : G.B id = some g) :
  ∃ σ' : Sg, G.σ.le σ' ∧ Conc E { G with σ := σ' } fr { st with box := upd st.box id (some (cs, true)) } a w ∧ ∃ vs : List Value, RelL σ' vs (cs.map AV.plain) ∧ ∀ (j : Nat) v, vs[j]? = some v → σ' g j = some v := by
 obtain ⟨g', hB', hge, ty, vs, hg, hrl, htg, hfz⟩ := h.box id cs fz hb
 replace hg := hg.cells hmp
 rw [hB] at hB'
 cases hB'
 have hle : G.σ.le fun b q => if b = g then vs[q]? else G.σ b q := fun b q v hv => by
  by_cases e : b = g
  ·subst e
   simp only [if_true]
   cases fz with
   | false => have := hfz q; rw [hv] at this; cases this
   | true =>
    have h1 := h.hold _ _ _ hv
    rw [cell_of_row w b q vs ty (0, 0) hg] at h1
    exact h1
  ·simp only [if_neg e]; exact hv
 have hG : G.le { G with σ := fun b q => if b = g then vs[q]? else G.σ b q } := ⟨hle, fun _ _ _ h => h, fun _ _ h => h, fun _ _ _ h => h⟩
 refine ⟨_, hle, ?_, vs.toList, ?_, fun j v hv => by simpa using hv⟩
 ·exact
  { defers := h.defers
    size := h.size
    slots := fun s x hs => (h.slots s x hs).mono hG fun _ _ _ _ hg => hg
    hold := fun b q v hv => by
     simp only at hv
     split at hv
     ·rename_i e
      subst e
      rw [cell_of_row w b q vs ty (0, 0) hg]
      exact hv
     ·exact h.hold b q v hv
    ext := ⟨h.ext.1.trans hle, fun b q hbq hnk => by
     simp only
     rw [if_neg (fun e => by rcases hge with hg1 | hg1; · omega
                             ·exact hnk (e ▸ hg1))]
     exact h.ext.2 b q hbq hnk⟩
    below := h.below
    box := fun id' cs' fz' hs' => by
     simp only at hs'
     rw [upd_at] at hs'
     split at hs'
     ·rename_i e
      cases hs'
      subst e
      exact ⟨g, hB, hge, ty, vs, .mk hmp hg, hrl.mono hle, htg.mono hG, fun j v hv => by simp only [if_true]; exact hv⟩
     ·rename_i e
      obtain ⟨g2, k1, k2, t2, vs2, k3, k4, k5, k6⟩ := h.box id' cs' fz' hs'
      have hne : g2 ≠ g := fun e' => e (h.binj id' id g (e' ▸ k1) hB)
      refine ⟨g2, k1, k2, t2, vs2, k3, k4.mono hle, k5.mono hG, ?_⟩
      cases fz' with
      | true => exact fun j v hv => hle _ _ _ (k6 j v hv)
      | false => exact fun j => by simp only [if_neg hne]; exact k6 j
    bnone := fun id' hs' => by
     simp only at hs'
     rw [upd_at] at hs'
     split at hs'
     ·cases hs'
     ·exact h.bnone id' hs'
    binj := h.binj
    row := fun s r hs' => by
     obtain ⟨⟨k1, e, cur, k3, k4, k5, k8⟩, k9⟩ := h.row s r hs'
     have hne : r.g ≠ g := fun e' => k9 id (e' ▸ hB)
     exact ⟨⟨k1, e, cur, k3, k4, k5, fun j hj => by simp only [if_neg hne]; exact k8 j hj⟩, k9⟩
    rinj := h.rinj
    rlt := h.rlt
    phi := fun k x hk => by
     obtain ⟨⟨h1, h2⟩, h3, h4⟩ := h.phi k x hk
     have hne : x.g ≠ g := fun e' => h3 id (e' ▸ hB)
     exact ⟨⟨h1, h2.on hle rfl fun j => by simp only [if_neg hne]; exact h2.free j⟩, h3, h4⟩
    phinj := h.phinj
    pnone := h.pnone
    small := h.small
    keep := h.keep }
 ·have := (hrl.mono hle).plain
  rw [List.map_map, show (AV.plain ∘ AV.unown) = AV.plain from funext plain_unown] at this
  exact this
theorem freeze_rel : ∀ {xs : List Operand} {ys : List Opd} {G : Gho} {st st' : St} {cs : List AV}, Conc E G fr st a w → (∀ ts : List TypeId, True) → opdsOf P xs [] = some ys → freeze st fr ys = some (cs, st') →
  ∃ σ' : Sg, G.σ.le σ' ∧ Conc E { G with σ := σ' } fr st' a w ∧ RelL σ' (xs.map a.eval) cs
 | [], ys, G, st, st', cs, h, _, h1, h2 => by
  cases h1
  cases h2
  exact ⟨G.σ, Sg.le.refl _, h, .nil⟩
 | x :: xs, ys, G, st, st', cs, h, _, h1, h2 => by
  unfold opdsOf at h1
  split at h1
  ·rename_i y ys' hy hys
   cases h1
   unfold freeze at h2
   split at h2
   ·rename_i id off hv
    split at h2
    ·rename_i cs0 fz hb
     split at h2
     ·rename_i cs' hdr
      split at h2
      ·rename_i r st2 hr
       cases h2
       obtain ⟨g, hB, hpv, _⟩ := h.ev hy hv
       obtain ⟨σ1, hle1, hC1, vs, hvs, hσ⟩ := h.freezeBox (cbox_some hb).1 (cbox_some hb).2 hB
       obtain ⟨σ2, hle2, hC2, hrl⟩ := freeze_rel hC1 (fun _ => trivial) hys hr
       obtain ⟨d1, d2⟩ := dropN_spec hdr
       refine ⟨σ2, hle1.trans hle2, hC2, .cons ?_ hrl⟩
       rw [hpv]
       have hdv := (hvs.drop off).mono hle2
       rw [← List.map_drop, ← d1] at hdv
       refine .ro _ g off (fun j => (vs.drop off).getD j undef) (fun j hj => ?_) fun j c hc => ?_
       ·have hj' : j < (vs.drop off).length := by rw [hdv.1]; exact hj
        have h3 : (vs.drop off)[j]? = some ((vs.drop off)[j]) := List.getElem?_eq_getElem hj'
        rw [List.getD, h3]
        rw [List.getElem?_drop] at h3
        exact hle2 _ _ _ (hσ _ _ h3)
       ·obtain ⟨v, hv1, hv2⟩ := hdv.at_ hc
        rw [List.getD, hv1]
        exact hv2
      ·cases h2
     ·cases h2
    ·cases h2
   ·cases h2
   ·cases h2
   ·cases h2
   ·cases h2
   ·cases h2
   ·cases h2
   ·rename_i c hn1 hn2 hn3 hn4 hn5 hn6 hn7 hc
    split at h2
    ·rename_i r st2 hr
     cases h2
     obtain ⟨σ2, hle2, hC2, hrl⟩ := freeze_rel h (fun _ => trivial) hys hr
     refine ⟨σ2, hle2, hC2, .cons ?_ hrl⟩
     have h0 := h.ev hy hc
     have key : Rel1 G.σ (a.eval x) c.plain := by
      cases c <;> first
       | (have := h0.1.plain; rw [plain_unown] at this; exact this)
       | exact absurd rfl (hn1 _ _)
       | exact absurd rfl (hn2 _)
       | exact absurd rfl (hn3 _)
       | exact absurd rfl (hn4 _ _)
       | exact absurd rfl (hn5 _ _ _ _ _)
       | exact absurd rfl (hn6 _ _ _ _)
       | exact absurd rfl (hn7 _ _ _)
     exact key.mono hle2
    ·cases h2
   ·cases h2
  ·cases h1
theorem sim_mkfn (h : Conc E G fr st a w) {fn : Fn} {first cap : Array Operand} (ho : o.op = .makeFunc fn first cap) (hi : opAI P mu gs o = some i) (hs : astep P i rs fr st = some (fr', st', p)) (hn : ∀ d, o.dst = some d → d < E.n) (hk : Then E fr' st' K) : o.wp P a w K Q := by
 unfold opAI at hi
 rw [ho] at hi
 cases fn with
 | func f =>
  simp only at hi
  split at hi
  ·rename_i d ys hd hys hf0
   cases hi
   simp only [astep] at hs
   split at hs
   ·rename_i cs st2 hfz
    cases hs
    obtain ⟨σ2, hle, hC, hrl⟩ := freeze_rel h (fun _ => trivial) hys hfz
    have hfirst : first = #[] := Array.size_eq_zero_iff.1 hf0
    have hrun : (execOp a.eval o).run P w = .ok (.value (.func (.func f) #[] (cap.toList.map a.eval).toArray)) w := by
     simp [execOp, ho, Instr.makeFunc, hfirst]
     exact Array.ext' (by simp)
    unfold Oper.wp
    rw [hrun, Oper.upon_value, hd]
    refine hk _ _ _ (hC.put (hn d hd) (RelS.of1 (.fn f cs _ hrl.1 (fun j => (cap.toList.map a.eval).getD j undef) (fun j v hv => by rw [List.getD, hv]; rfl) fun j c hc => ?_)))
    obtain ⟨v, hv1, hv2⟩ := hrl.at_ hc
    rw [List.getD, hv1]
    exact hv2
   ·cases hs
  ·cases hi
 | method m => cases hi
 | methodOf t m => cases hi
 | via t p f b => cases hi
 | yield l => cases hi
theorem bound_run {isSlice : Bool} {x : Operand} {y : Opd} (h : Conc E G fr st a w) (hy : opdOf P 0 x = some y) {n : Int} {k : IntKind} (hv : y.ev fr = some (.int k n)) (m : Nat) (code : BoundsCode) (h0 : 0 ≤ n) (h1 : n ≤ m) : (Instr.sliceBound (a.eval x) m code).run P w = .ok n.toNat w := by
 rw [(h.ev hy hv).int]
 exact run_sliceBound w k n m code h0 h1
theorem bounds_run (h : Conc E G fr st a w) (isSlice : Bool) (len cap : Nat) (hlc : len ≤ cap) {lo hi : Option Operand} {lo' hi' : Option Opd} (hl : optOpd P lo = some lo') (hh : optOpd P hi = some hi') {x y : Int} (hx : intOfOpt fr 0 lo' = some x) (hy : intOfOpt fr len hi' = some y)
  (h0 : 0 ≤ x) (h1 : x ≤ y) (h2 : y ≤ len) : (Instr.sliceBounds isSlice len cap (lo.map a.eval) (hi.map a.eval) none).run P w = .ok (x.toNat, y.toNat, cap) w := by
 have high : ∀ code, (match hi.map a.eval with | some v => Instr.sliceBound v cap code | none => pure len : Sem Nat).run P w = .ok y.toNat w := by
  intro code
  cases hi with
  | none =>
   cases hh
   simp only [intOfOpt, Option.some.injEq] at hy
   subst hy
   simp
  | some v =>
   unfold optOpd at hh
   simp only at hh
   split at hh
   ·rename_i z hz
    cases hh
    simp only [intOfOpt] at hy
    split at hy
    ·rename_i k n hv
     cases hy
     exact bound_run (isSlice := isSlice) h hz hv cap code (by omega) (by omega)
    ·cases hy
   ·cases hh
 have low : ∀ code, (match lo.map a.eval with | some v => Instr.sliceBound v y.toNat code | none => pure 0 : Sem Nat).run P w = .ok x.toNat w := by
  intro code
  cases lo with
  | none =>
   cases hl
   simp only [intOfOpt, Option.some.injEq] at hx
   subst hx
   simp
  | some v =>
   unfold optOpd at hl
   simp only at hl
   split at hl
   ·rename_i z hz
    cases hl
    simp only [intOfOpt] at hx
    split at hx
    ·rename_i k n hv
     cases hx
     exact bound_run (isSlice := isSlice) h hz hv y.toNat code (by omega) (by omega)
    ·cases hx
   ·cases hl
 have h3 := high (if isSlice then .sliceAcap else .sliceAlen)
 have h4 := low .sliceB
 unfold Instr.sliceBounds
 simp only [Sem.run_bind, Sem.run_pure, Result.andThen_ok]
 cases hi with
 | none =>
  simp only [Option.map_none] at h3 ⊢
  rw [Sem.run_bind, h3]
  simp only [Result.andThen_ok]
  cases lo with
  | none => simp only [Option.map_none] at h4 ⊢; rw [Sem.run_bind, h4]; rfl
  | some v => simp only [Option.map_some, Option.isSome_none, Bool.false_eq_true, if_false] at h4 ⊢; rw [Sem.run_bind, h4]; rfl
 | some u =>
  simp only [Option.map_some] at h3 ⊢
  rw [Sem.run_bind, h3]
  simp only [Result.andThen_ok]
  cases lo with
  | none => simp only [Option.map_none] at h4 ⊢; rw [Sem.run_bind, h4]; rfl
  | some v => simp only [Option.map_some, Option.isSome_none, Bool.false_eq_true, if_false] at h4 ⊢; rw [Sem.run_bind, h4]; rfl
theorem sim_sub (h : Conc E G fr st a w) {t : TypeId} {x : Operand} {lo hi mx : Option Operand} (ho : o.op = .slice t x lo hi mx) (hi' : opAI P mu gs o = some i) (hs : astep P i rs fr st = some (fr', st', p)) (hp : p) (hn : ∀ d, o.dst = some d → d < E.n) (hk : Then E fr' st' K) : o.wp P a w K Q := by
 unfold opAI at hi'
 rw [ho] at hi'
 cases mx with
 | some m => cases hi'
 | none =>
  simp only at hi'
  split at hi'
  ·rename_i d x' lo' hh' hd hx hlo hhi hu
   cases hi'
   simp only [astep] at hs
   split at hs
   ·rename_i s heq hxv
    split at hs
    ·rename_i u v hu1 hv1
     cases hs
     obtain ⟨h0, h1, h2⟩ := hp
     have hsv := (h.ev hx hxv).str
     have hb := bounds_run h false s.size s.size (Nat.le_refl _) hlo hhi hu1 hv1 h0 h1 h2
     have hrun : (execOp a.eval o).run P w = .ok (.value (.string (s.extract u.toNat v.toNat))) w := by
      simp only [execOp, ho, hsv, Instr.sliceAt, Instr.slice, Sem.run_bind, run_underlying hu, Result.andThen_ok, Option.map_none, Option.isSome_none, Bool.false_eq_true, if_false, hb, Sem.run_pure]
     exact sim_value h hrun hd (hn d hd) (x := .str (s.extract u.toNat v.toNat)) ⟨.str _, trivial⟩ hk
    ·cases hs
   ·rename_i heq _; cases heq
   ·cases hs
  ·rename_i d x' lo' hh' e hd hx hlo hhi hu
   split at hi'
   ·rename_i inf hinf
    split at hi'
    ·rename_i hpos
     cases hi'
     simp only [astep] at hs
     split at hs
     ·rename_i heq _; cases heq
     ·rename_i tg esz l heq hxv
      split at hs
      ·rename_i u v hu1 hv1
       cases hs
       obtain ⟨he, h0, h1, h2⟩ := hp
       subst he
       obtain ⟨A, cap, b, q, f, hv, q2, q3, q4, q5, q6, _⟩ := lst_open (h.ev hx hxv)
       have hb := bounds_run h true l.length cap q2 hlo hhi hu1 hv1 h0 h1 h2
       have hsz : (sizeOf e).run P w = .ok inf.size w := by simp [sizeOf, typeInfo, hinf]
       have hrun : (execOp a.eval o).run P w = .ok (.value (.slice (if cap = u.toNat then A else A.map (·.add (u.toNat * inf.size))) (v.toNat - u.toNat) (cap - u.toNat))) w := by
        simp only [execOp, ho, hv, Instr.sliceAt, Instr.slice, Sem.run_bind, run_underlying hu, Result.andThen_ok, Option.map_none, hb, hsz, Sem.run_pure]
       have hlen : ((l.take v.toNat).drop u.toNat).length = v.toNat - u.toNat := by rw [List.length_drop, List.length_take]; omega
       have hat : ∀ i, i < v.toNat - u.toNat → ((l.take v.toNat).drop u.toNat)[i]? = l[u.toNat + i]? := fun i hi => by
        rw [List.getElem?_drop, List.getElem?_take, if_pos (by omega)]
       refine sim_value h hrun hd (hn d hd) (x := .lst .any inf.size ((l.take v.toNat).drop u.toNat)) (RelS.of1 (.lst .any inf.size _ _ _ _ b (q + u.toNat * inf.size) (fun i j => f (u.toNat + i) j) hlen.symm (by omega) (fun hpos2 => ?_) (fun i c hc => ?_) (fun i j hi hj => ?_) (fun i j c x hc hx' => ?_) trivial)) hk
       ·rw [if_neg (by omega), q3 (by omega)]
        simp [Addr.add_lit]
       ·have hi2 : i < v.toNat - u.toNat := by rw [← hlen]; exact (List.getElem?_eq_some_iff.1 hc).1
        rw [hat i hi2] at hc
        exact q4 _ _ hc
       ·have := q5 (u.toNat + i) j (by omega) hj
        rw [Nat.add_mul] at this
        rw [← this]
        congr 1
        omega
       ·have hi2 : i < v.toNat - u.toNat := by rw [← hlen]; exact (List.getElem?_eq_some_iff.1 hc).1
        rw [hat i hi2] at hc
        exact q6 _ _ _ _ hc hx'
      ·cases hs
     ·cases hs
    ·cases hi'
   ·cases hi'
  ·cases hi'
end
end Go.Proofs.YtgidajjjpeboeaaGreatDoor
/-
 The abstract walk: append.
-/
namespace Go.Proofs.YtgidajjjpeboeaaGreatDoor
open Go.RowKit
section
variable {P : Program} {mu : List Nat} {E : Env} {G : Gho} {fr fr' : Fr} {st st' : St} {a : Act} {w : World} {o : Oper} {K : Act → World → Prop} {Q : Exit → Act → World → Prop} {p : Prop} {rs : Option RS} {i : AI} {gs : Bool}
def flatV (n esz : Nat) (f : Nat → Nat → Value) : List Value := (List.range (n * esz)).map fun q => f (q / esz) (q % esz)
theorem flatV_len (n esz : Nat) (f : Nat → Nat → Value) : (flatV n esz f).length = n * esz := by simp [flatV]
theorem flatV_at {n esz : Nat} (f : Nat → Nat → Value) {q : Nat} (h : q < n * esz) : (flatV n esz f)[q]? = some (f (q / esz) (q % esz)) := by
 simp [flatV, h]
theorem flatV_at2 {n esz : Nat} (f : Nat → Nat → Value) {i j : Nat} (hi : i < n) (hj : j < esz) : (flatV n esz f)[i * esz + j]? = some (f i j) := by
 have h1 : i * esz + j < n * esz := by
  have : (i + 1) * esz ≤ n * esz := Nat.mul_le_mul_right _ hi
  rw [Nat.add_mul] at this
  omega
 rw [flatV_at f h1]
 have h2 : (i * esz + j) / esz = i := by
  rw [Nat.mul_comm, Nat.mul_add_div (by omega), Nat.div_eq_of_lt hj, Nat.add_zero]
 have h3 : (i * esz + j) % esz = j := by
  rw [Nat.mul_comm, Nat.mul_add_mod, Nat.mod_eq_of_lt hj]
 rw [h2, h3]
theorem flatV_cells {σ : Sg} {n esz b q0 : Nat} {f : Nat → Nat → Value} (hσ : ∀ i j, i < n → j < esz → σ b (q0 + i * esz + j) = some (f i j)) : ∀ (q : Nat) v, (flatV n esz f)[q]? = some v → σ b (q0 + q) = some v := by
 intro q v hv
 have hq : q < n * esz := by have := (List.getElem?_eq_some_iff.1 hv).1; rwa [flatV_len] at this
 have he : 0 < esz := by
  rcases Nat.eq_zero_or_pos esz with h | h
  ·subst h; omega
  ·exact h
 rw [flatV_at f hq] at hv
 cases hv
 have h1 : q / esz < n := Nat.div_lt_of_lt_mul (by rw [Nat.mul_comm]; exact hq)
 have h2 := hσ (q / esz) (q % esz) h1 (Nat.mod_lt _ he)
 rw [← h2]
 congr 1
 have := Nat.div_add_mod q esz
 rw [Nat.mul_comm] at this
 omega
theorem Conc.bump (h : Conc E G fr st a w) (s : Nat) : Conc E G fr { st with row := upd st.row s (st.row s + 1) } a w :=
 { h with
   row := fun s' r hs => by
    simp only at hs
    rw [upd_at] at hs
    split at hs
    ·rename_i e; subst e; have := h.rlt _ _ _ hs; omega
    ·exact h.row s' r hs
   rinj := fun s1 s2 r1 r2 h1 h2 hg => by
    simp only at h1 h2
    rw [upd_at] at h1 h2
    split at h1
    ·rename_i e; subst e; have := h.rlt _ _ _ h1; omega
    ·split at h2
     ·rename_i e; subst e; have := h.rlt _ _ _ h2; omega
     ·exact h.rinj s1 s2 r1 r2 h1 h2 hg
   rlt := fun s' v x hs => by
    have := h.rlt s' v x hs
    simp only
    rw [upd_at]
    split
    ·rename_i e; subst e; omega
    ·exact this
   phi := fun k x hk => by
    obtain ⟨h1, h2, h3⟩ := h.phi k x hk
    refine ⟨h1, h2, fun s' r hs => ?_⟩
    simp only at hs
    rw [upd_at] at hs
    split at hs
    ·rename_i e; subst e; have := h.rlt _ _ _ hs; omega
    ·exact h3 s' r hs }
def ρset (ρ : Nat → Nat → Option RowI) (s v : Nat) (r : RowI) : Nat → Nat → Option RowI := fun s' v' => if s' = s ∧ v' = v then some r else ρ s' v'
theorem Conc.claim (h : Conc E G fr st a w) {s : Nat} (hnone : G.ρ s (st.row s) = none) {r : RowI} (hr : RowAt E G w r) (hB : ∀ id, G.B id ≠ some r.g) (hne : ∀ s' r', G.ρ s' (st.row s') = some r' → r'.g ≠ r.g) (hφ : ∀ k x, G.φ k = some x → x.g ≠ r.g) :
  Conc E { G with ρ := ρset G.ρ s (st.row s) r } fr st a w :=
 have hle : G.le { G with ρ := ρset G.ρ s (st.row s) r } := ⟨Sg.le.refl _, fun s' v x hx => by
  simp only [ρset]
  rw [if_neg (fun e => by rw [e.1, e.2, hnone] at hx; cases hx)]
  exact hx, fun _ _ h => h, fun _ _ _ h => h⟩
 { defers := h.defers
   size := h.size
   slots := fun s' x hs => (h.slots s' x hs).mono hle fun _ _ _ _ hg => hg
   hold := h.hold
   ext := h.ext
   below := h.below
   box := fun id cs fz hs => by
    obtain ⟨g, h1, h2, t, vs, h3, h4, h5, h6⟩ := h.box id cs fz hs
    exact ⟨g, h1, h2, t, vs, h3, h4, h5.mono hle, h6⟩
   bnone := h.bnone
   binj := h.binj
   row := fun s' r' hs => by
    simp only [ρset] at hs
    split at hs
    ·cases hs; exact ⟨hr, hB⟩
    ·exact h.row s' r' hs
   rinj := fun s1 s2 r1 r2 h1 h2 hg => by
    simp only [ρset] at h1 h2
    split at h1
    ·rename_i e1
     split at h2
     ·rename_i e2; rw [e1.1, e2.1]
     ·cases h1; exact absurd hg.symm (hne _ _ h2)
    ·split at h2
     ·cases h2; exact absurd hg (hne _ _ h1)
     ·exact h.rinj s1 s2 r1 r2 h1 h2 hg
   rlt := fun s' v x hs => by
    simp only [ρset] at hs
    split at hs
    ·rename_i e; rw [e.1, e.2]; exact Nat.le_refl _
    ·exact h.rlt s' v x hs
   phi := fun k x hk => by
    obtain ⟨h1, h2, h3⟩ := h.phi k x hk
    refine ⟨h1, h2, fun s' r' hs => ?_⟩
    simp only [ρset] at hs
    split at hs
    ·cases hs; exact fun e => hφ k x hk e.symm
    ·exact h3 s' r' hs
   phinj := h.phinj
   pnone := h.pnone
   small := h.small
   keep := h.keep }
theorem Conc.commit (h : Conc E G fr st a w) {g : Nat} {cur new : Array Value} {e : TypeId} (hge : E.own g) (hg : w.heap[g]? = some (.cells cur e (0, 0))) (hB : ∀ id, G.B id ≠ some g) (hne : ∀ s' r', G.ρ s' (st.row s') = some r' → r'.g ≠ g) (hφ : ∀ k x, G.φ k = some x → x.g ≠ g)
  {σ' : Sg} (hle : G.σ.le σ') (hother : ∀ b q, b ≠ g → σ' b q = G.σ b q) (hnew : ∀ q v, σ' g q = some v → new[q]? = some v) :
  Conc E { G with σ := σ' } fr st a (w.setRow g new) :=
 have hG : G.le { G with σ := σ' } := ⟨hle, fun _ _ _ h => h, fun _ _ h => h, fun _ _ _ h => h⟩
 { defers := h.defers
   size := h.size
   slots := fun s x hs => (h.slots s x hs).mono hG fun _ _ _ _ hg => hg
   hold := fun b q v hv => by
    by_cases hb : b = g
    ·subst hb
     rw [cell_setRow_same w b q cur new e (0, 0) hg]
     exact hnew q v hv
    ·rw [cell_setRow_other w g new ⟨b, q, none⟩ hb]
     exact h.hold b q v (by rw [← hother b q hb]; exact hv)
   ext := ⟨h.ext.1.trans hle, fun b q hb hnk => by
    have hbg : b ≠ g := fun e => by
     rcases hge with hg1 | hg1
     ·omega
     ·exact hnk (e ▸ hg1)
    rw [show ({ G with σ := σ' } : Gho).σ b q = σ' b q from rfl, hother b q hbg]
    exact h.ext.2 b q hb hnk⟩
   below := below_row h.below hge
   box := fun id cs fz hs => by
    obtain ⟨g2, k1, k2, t2, vs2, k3, k4, k5, k6⟩ := h.box id cs fz hs
    have hne2 : g2 ≠ g := fun e' => hB id (e' ▸ k1)
    refine ⟨g2, k1, k2, t2, vs2, k3.of (setRow_other w g g2 _ hne2), k4.mono hle, k5.mono hG, ?_⟩
    cases fz with
    | true => exact fun j v hv => hle _ _ _ (k6 j v hv)
    | false => exact fun j => by rw [show ({ G with σ := σ' } : Gho).σ g2 j = σ' g2 j from rfl, hother g2 j hne2]; exact k6 j
   bnone := h.bnone
   binj := h.binj
   row := fun s r hs => by
    obtain ⟨⟨k1, e2, cur2, k3, k4, k5, k8⟩, k9⟩ := h.row s r hs
    have hne2 := hne s r hs
    exact ⟨⟨k1, e2, cur2, by rw [setRow_other w g r.g _ hne2]; exact k3, k4, k5, fun j hj => by rw [show ({ G with σ := σ' } : Gho).σ r.g j = σ' r.g j from rfl, hother r.g j hne2]; exact k8 j hj⟩, k9⟩
   rinj := h.rinj
   rlt := h.rlt
   phi := fun k x hk => by
    obtain ⟨⟨h1, h2⟩, h3, h4⟩ := h.phi k x hk
    have hne2 := hφ k x hk
    exact ⟨⟨h1, h2.on hle (setRow_other w g x.g _ hne2) fun j => by rw [show ({ G with σ := σ' } : Gho).σ x.g j = σ' x.g j from rfl, hother x.g j hne2]; exact h2.free j⟩, h3, h4⟩
   phinj := h.phinj
   pnone := h.pnone
   small := h.small
   keep := h.keep }
theorem run_append_zero (w : World) (t ty e : TypeId) {inf : TypeInfo} (ht : P.underlying t = some (.slice e)) (hi : P.info? e = some inf) (A A2 : Option Addr) (n cap c2 : Nat) (hle : n ≤ cap) :
  (Builtin.append_ #[t, t] ty #[.slice A n cap, .slice A2 0 c2]).run P w = .ok (.slice A n cap) w := by
 cases A <;> cases A2 <;> simp [Builtin.append_, run_underlying ht, sizeOf, typeInfo, hi, Builtin.lenOf, Builtin.firstCells, hle, storeCells, loadCells, loadCellsFrom]
theorem rel_append {σ : Sg} {esz : Nat} {l m : List (List AV)} {f f2 : Nat → Nat → Value} (h1 : ∀ (i : Nat) (c : List AV), l[i]? = some c → c.length = esz) (h2 : ∀ (i : Nat) (c : List AV), m[i]? = some c → c.length = esz)
  (r1 : ∀ (i j : Nat) (c : List AV) (x : AV), l[i]? = some c → c[j]? = some x → Rel1 σ (f i j) x) (r2 : ∀ (i j : Nat) (c : List AV) (x : AV), m[i]? = some c → c[j]? = some x → Rel1 σ (f2 i j) x)
  {g cap : Nat} (hcap : l.length + m.length ≤ cap) (s1 : ∀ i j, i < l.length → j < esz → σ g (i * esz + j) = some (f i j)) (s2 : ∀ i j, i < m.length → j < esz → σ g ((l.length + i) * esz + j) = some (f2 i j)) :
  Rel1 σ (.slice (some ⟨g, 0, none⟩) (l.length + m.length) cap) (.lst .any esz (l ++ m)) := by
 refine .lst .any esz (l ++ m) _ _ cap g 0 (fun i j => if i < l.length then f i j else f2 (i - l.length) j) (by simp) hcap (fun _ => rfl) (fun i c hc => ?_) (fun i j hi hj => ?_) (fun i j c x hc hx => ?_) trivial
 ·by_cases hi : i < l.length
  ·rw [List.getElem?_append_left hi] at hc; exact h1 i c hc
  ·rw [List.getElem?_append_right (by omega)] at hc; exact h2 _ c hc
 ·rw [Nat.zero_add]
  by_cases hil : i < l.length
  ·rw [if_pos hil]; exact s1 i j hil hj
  ·rw [if_neg hil]
   have := s2 (i - l.length) j (by omega) hj
   rw [show l.length + (i - l.length) = i by omega] at this
   exact this
 ·by_cases hil : i < l.length
  ·simp only [if_pos hil]; rw [List.getElem?_append_left hil] at hc; exact r1 i j c x hc hx
  ·simp only [if_neg hil]; rw [List.getElem?_append_right (by omega)] at hc; exact r2 _ j c x hc hx
theorem app_slot {t : Tag} (d : Nat) (h : OwnTag st t) : ∃ s0, appTag st d t = .own s0 (st.row s0 + 1) ∧ appRow st d t = upd st.row s0 (st.row s0 + 1) ∧ ∀ s v, t = .own s v → s = s0 ∧ v = st.row s0 := by
 cases t with
 | own s v =>
  have h' : st.row s = v := h
  subst h'
  exact ⟨s, rfl, rfl, fun s' v' e => by cases e; exact ⟨rfl, rfl⟩⟩
 | nil => exact ⟨d, rfl, rfl, fun s' v' e => by cases e⟩
 | full => exact ⟨d, rfl, rfl, fun s' v' e => by cases e⟩
 | any => exact h.elim
theorem Conc.appEnd {σ' : Sg} {w' : World} {s0 d : Nat} (h : Conc E { G with σ := σ' } fr { st with row := upd st.row s0 (st.row s0 + 1) } a w') (hd : d < E.n) (hold : ∀ x, G.ρ s0 (st.row s0 + 1) = some x → False) {v : Value} {esz : Nat} {l : List (List AV)} (hr : Rel1 σ' v (.lst .any esz l))
  (ht : (l.length = 0 ∧ ∃ A, v = .slice A l.length l.length) ∨ ∃ g cap, v = .slice (some ⟨g, 0, none⟩) l.length cap ∧ RowAt E { G with σ := σ' } w' ⟨g, l.length, esz, cap⟩ ∧ (∀ id, G.B id ≠ some g) ∧ (∀ s' r', G.ρ s' (upd st.row s0 (st.row s0 + 1) s') = some r' → r'.g ≠ g) ∧ ∀ k x, G.φ k = some x → x.g ≠ g) :
  ∃ G', Conc E G' (put1 fr d (.lst (.own s0 (st.row s0 + 1)) esz l)) { st with row := upd st.row s0 (st.row s0 + 1) } (a.put (some d) v) w' := by
 rcases ht with ⟨h0, A, hv⟩ | ⟨g, cap, hv, hra, hB, hne, hφ⟩
 ·exact ⟨_, h.put hd ⟨hr, .inl ⟨h0, A, hv⟩⟩⟩
 ·have hnone : G.ρ s0 (upd st.row s0 (st.row s0 + 1) s0) = none := by
   rw [upd_same]
   cases hq : G.ρ s0 (st.row s0 + 1) with
   | none => rfl
   | some x => exact (hold x hq).elim
  have h2 := h.claim (s := s0) hnone (r := ⟨g, l.length, esz, cap⟩) hra hB hne hφ
  refine ⟨_, h2.put hd ⟨hr, .inr ⟨g, cap, hv, ?_⟩⟩⟩
  simp only [ρset, upd_same]
  simp
theorem zeros_one' {z : Array Value} (hz : ∀ u ∈ z.toList, u.oneCell' = true) (n : Nat) : ∀ u ∈ (Builtin.zeroCells z n).toList, u.oneCell' = true := by
 intro u hu
 simp only [Builtin.zeroCells, Array.toList_map, List.mem_map] at hu
 obtain ⟨i, hi, rfl⟩ := hu
 have hi2 : i < n * z.size := by simpa using hi
 have hp : 0 < z.size := by
  rcases Nat.eq_zero_or_pos z.size with h | h
  ·rw [h] at hi2; omega
  ·exact h
 have hlt : i % z.size < z.size := Nat.mod_lt _ hp
 rw [getElem!_pos z _ hlt]
 exact hz _ (by simp)
theorem grown_conc (h : Conc E G fr st a w) {e : TypeId} {esz n : Nat} {cells : Array Value} (news : List Value) (hnews : ∀ (q : Nat) v, news[q]? = some v → cells[q]? = some v) :
  ∃ σ' : Sg, G.σ.le σ' ∧ Conc E { G with σ := σ' } fr st a (w.drew.alloc (.cells cells e)) ∧ (∀ (q : Nat) v, news[q]? = some v → σ' w.heap.size q = some v) ∧ (∀ q, news.length ≤ q → σ' w.heap.size q = none) := by
 have hbl : Below w.heap.size w (w.drew.alloc (.cells cells e)) := ((Below.refl _ _).drew).alloc (Nat.le_refl _) _
 have hle : G.σ.le fun b q => if b = w.heap.size then news[q]? else G.σ b q := fun b q v hv => by
  have : b ≠ w.heap.size := fun e => by rw [e, h.fresh] at hv; cases hv
  simp only [if_neg this]
  exact hv
 refine ⟨_, hle, h.world hbl ⟨hle, fun b q hb => if_neg (by omega)⟩ fun b q v hv => ?_, fun q v hv => by simp [hv], fun q hq => by simp [hq]⟩
 split at hv
 ·rename_i e'
  subst e'
  have h1 := World.cell?_alloc_at (w := w.drew) cells e w.heap.size q rfl
  exact h1.trans (hnews q v hv)
 ·have h1 := h.hold b q v hv
  exact (hbl.cell (p := ⟨b, q, none⟩) (World.block_lt_of_cell? w _ h1)).trans h1
theorem run_append_room' (w : World) (t ty e e' : TypeId) (inf : TypeInfo) (ht : P.underlying t = some (.slice e)) (hi : P.info? e = some inf) (g sLen sCap : Nat) (cur : Array Value) (hg : w.heap[g]? = some (.cells cur e' (0, 0)))
  (a : Addr) (m c : Nat) (news : List Value) (hl : news.length = m * inf.size) (hnews : ∀ (j : Nat) u, news[j]? = some u → w.cell? (a.add j) = some u) (h1 : ∀ u ∈ news, u.oneCell' = true) (hroom : sLen + m ≤ sCap) (hfit : sLen * inf.size + news.length ≤ cur.size) :
  (Builtin.append_ #[t, t] ty #[.slice (some ⟨g, 0, none⟩) sLen sCap, .slice (some a) m c]).run P w =
   .ok (.slice (some ⟨g, 0, none⟩) (sLen + m) sCap) (w.setRow g (cur.toList.take (sLen * inf.size) ++ news ++ cur.toList.drop (sLen * inf.size + news.length)).toArray) := by
 have hf := run_firstCells_some (P := P) w inf.size m a m c news hl hnews
 have hst := run_storeCells_at P g (sLen * inf.size) e' news 0 cur w hg (by simpa using hfit) h1
 simp only [Nat.add_zero] at hst
 simp [Builtin.append_, run_underlying ht, sizeOf, typeInfo, hi, Builtin.lenOf, hroom, hf, Addr.add_lit, hst]
end
end Go.Proofs.YtgidajjjpeboeaaGreatDoor
/-
 The abstract walk: append, the law.
-/
namespace Go.Proofs.YtgidajjjpeboeaaGreatDoor
open Go.RowKit
section
variable {P : Program} {mu : List Nat} {E : Env} {G : Gho} {fr fr' : Fr} {st st' : St} {a : Act} {w : World} {o : Oper} {K : Act → World → Prop} {Q : Exit → Act → World → Prop} {p : Prop} {rs : Option RS} {i : AI} {gs : Bool}
theorem append_frow {σ : Sg} {w : World} (t ty e : TypeId) {inf : TypeInfo} {z : Value} (hu : P.underlying t = some (.slice e)) (hinf : P.info? e = some inf) (hz : inf.zero = some z) (hz1 : ∀ u ∈ z.cells.toList, u.oneCell' = true) (hzs : z.cells.size = inf.size)
  (hh : Holds σ w) {A : Option Addr} {cap g : Nat} {rows m : List (List AV)} (hF : (A = none ∧ rows = [] ∧ cap = 0 ∧ g = w.heap.size) ∨ (A = some ⟨g, 0, none⟩ ∧ FRowW σ w g cap inf.size rows)) {ad : Addr} {c2 : Nat} {news : List Value} (hnl : news.length = m.length * inf.size)
  (hncell : ∀ (j : Nat) u, news[j]? = some u → w.cell? (ad.add j) = some u) (hnone : ∀ u ∈ news, u.oneCell' = true) (hnrel : RelL σ news m.flatten) (hml : ∀ c ∈ m, c.length = inf.size) (hm : 0 < m.length) (hbytes : (rows.length + m.length) * inf.bytes ≤ 140737488355328) (hlen : rows.length + m.length ≤ 140737488355328) :
  ∃ g' cap' w', (Builtin.append_ #[t, t] ty #[.slice A rows.length cap, .slice (some ad) m.length c2]).run P w = .ok (.slice (some ⟨g', 0, none⟩) (rows ++ m).length cap') w' ∧ Holds σ w' ∧ BelowBut g w w' ∧ (g' = g ∨ w.heap.size ≤ g') ∧ FRowW σ w' g' cap' inf.size (rows ++ m) := by
 have hrl : ∀ l : List (List AV), (∀ c ∈ l, c.length = inf.size) → l.flatten.length = l.length * inf.size := by
  intro l
  induction l with
  | nil => intro _; simp
  | cons x l ih => intro hx; rw [List.flatten_cons, List.length_append, List.length_cons, ih fun c hc => hx c (by simp [hc]), hx x (by simp), Nat.add_mul]; omega
 -- a new block
 have newb : ∀ (olds : List Value) (cap' : Nat), olds.length = rows.length * inf.size → RelL σ olds rows.flatten → (∀ c ∈ rows, c.length = inf.size) → (∀ u ∈ olds, u.oneCell' = true) → rows.length + m.length ≤ cap' →
   (Builtin.append_ #[t, t] ty #[.slice A rows.length cap, .slice (some ad) m.length c2]).run P w = .ok (.slice (some ⟨w.heap.size, 0, none⟩) (rows.length + m.length) cap') (w.drew.alloc (.cells ((olds ++ news).toArray ++ Builtin.zeroCells z.cells (cap' - (rows.length + m.length))) e)) →
   ∃ g' cap' w', (Builtin.append_ #[t, t] ty #[.slice A rows.length cap, .slice (some ad) m.length c2]).run P w = .ok (.slice (some ⟨g', 0, none⟩) (rows ++ m).length cap') w' ∧ Holds σ w' ∧ BelowBut g w w' ∧ (g' = g ∨ w.heap.size ≤ g') ∧ FRowW σ w' g' cap' inf.size (rows ++ m) := by
  intro olds cap' hol hor hro hoo hcap' hrun
  have hb : Below w.heap.size w (w.drew.alloc (.cells ((olds ++ news).toArray ++ Builtin.zeroCells z.cells (cap' - (rows.length + m.length))) e)) := ((Below.refl _ _).drew).alloc (Nat.le_refl _) _
  refine ⟨w.heap.size, cap', _, by rw [List.length_append]; exact hrun, fun b o v hv => ?_, ⟨hb.os, hb.tape, hb.output, hb.size, fun k hk _ => hb.block k hk⟩, .inr (Nat.le_refl _), e, _, heap_alloc_new w.drew _, ?_, by rw [List.length_append]; exact hcap', fun c hc => ?_, ?_, fun u hu => ?_, fun j => ?_⟩
  ·have h1 := hh b o v hv
   exact (hb.cell (p := ⟨b, o, none⟩) (World.block_lt_of_cell? w _ h1)).trans h1
  ·simp only [Array.size_append, List.size_toArray, List.length_append, size_zeroCells, hol, hnl, hzs, ← Nat.add_mul]
   congr 1
   omega
  ·rcases List.mem_append.1 hc with hc | hc
   ·exact hro c hc
   ·exact hml c hc
  ·rw [List.flatten_append, Array.toList_append, List.length_append, Nat.add_mul]
   rw [List.take_append_of_le_length (by simp [hol, hnl]), List.take_of_length_le (by simp [hol, hnl])]
   exact hor.append hnrel
  ·rw [Array.toList_append, List.mem_append] at hu
   rcases hu with hu | hu
   ·rcases List.mem_append.1 (by simpa using hu) with hu | hu
    ·exact hoo u hu
    ·exact hnone u hu
   ·exact zeros_one' hz1 _ u hu
  ·cases hq : σ w.heap.size j with
   | none => rfl
   | some v =>
    have := World.block_lt_of_cell? w _ (hh _ _ _ hq)
    simp at this
 rcases hF with ⟨rfl, rfl, rfl, rfl⟩ | ⟨rfl, hF⟩
 ·have hge := grownCap_ge w m.length 0 e
  refine newb [] (grownCap w m.length 0 e) (by simp) .nil (fun c hc => by cases hc) (fun u hu => by cases hu) (by simpa using hge) ?_
  have h1 := run_append_nil w t ty e inf z hu hinf hz ad m.length c2 news hnl hncell hm (by simp at hlen; omega) (by simp at hbytes; omega)
  simp only [List.length_nil, Nat.zero_add, List.nil_append]
  exact h1
 obtain ⟨e', cur, hg, hsz, hcap, hro, hrel, hone, hfree⟩ := hF
 have hol : (cur.toList.take (rows.length * inf.size)).length = rows.length * inf.size := by
  have hcl : cur.toList.length = cap * inf.size := by simpa using hsz
  rw [List.length_take, hcl]
  have := Nat.mul_le_mul_right inf.size hcap
  omega
 by_cases hroom : rows.length + m.length ≤ cap
 ·have hfit : rows.length * inf.size + news.length ≤ cur.size := by rw [hnl, hsz, ← Nat.add_mul]; exact Nat.mul_le_mul_right _ hroom
  have hrun := run_append_room' w t ty e e' inf hu hinf g rows.length cap cur hg ad m.length c2 news hnl hncell hnone hroom hfit
  refine ⟨g, cap, _, by rw [List.length_append]; exact hrun, fun b o v hv => ?_, ?_, .inl rfl, e', _, setRow_heap w g cur _ e' _ hg, ?_, by rw [List.length_append]; exact hroom, fun c hc => ?_, ?_, fun u hu => ?_, hfree⟩
  ·have hne : b ≠ g := fun e => by rw [e, hfree o] at hv; cases hv
   have h1 := hh b o v hv
   exact (World.cell?_of_block (w := w) (a := ⟨b, o, none⟩) (setRow_other w g b _ hne)).trans h1
  ·obtain ⟨h1, h2, h3, h4, _⟩ := below_setRow (Below.refl g w) (Nat.le_refl _) (cur.toList.take (rows.length * inf.size) ++ news ++ cur.toList.drop (rows.length * inf.size + news.length)).toArray
   exact ⟨h1, h2, h3, h4, fun k _ hn => setRow_other w g k _ hn⟩
  ·have hcl : cur.toList.length = cur.size := by simp
   rw [← hsz]
   simp only [List.size_toArray, List.length_append, List.length_take, List.length_drop]
   omega
  ·rcases List.mem_append.1 hc with hc | hc
   ·exact hro c hc
   ·exact hml c hc
  ·rw [List.flatten_append, List.length_append, Nat.add_mul]
   have e1 : (cur.toList.take (rows.length * inf.size) ++ news ++ cur.toList.drop (rows.length * inf.size + news.length)).toArray.toList.take (rows.length * inf.size + m.length * inf.size) = cur.toList.take (rows.length * inf.size) ++ news := by
    show (cur.toList.take (rows.length * inf.size) ++ news ++ cur.toList.drop (rows.length * inf.size + news.length)).take _ = _
    exact List.take_left' (by rw [List.length_append, hol, hnl])
   rw [e1]
   exact hrel.append hnrel
  ·have hu : u ∈ cur.toList.take (rows.length * inf.size) ++ news ++ cur.toList.drop (rows.length * inf.size + news.length) := hu
   simp only [List.mem_append] at hu
   rcases hu with (hu | hu) | hu
   ·exact hone u (List.mem_of_mem_take hu)
   ·exact hnone u hu
   ·exact hone u (List.mem_of_mem_drop hu)
 ·have hge := grownCap_ge w (rows.length + m.length) cap e
  refine newb (cur.toList.take (rows.length * inf.size)) (grownCap w (rows.length + m.length) cap e) hol hrel hro (fun u hu => hone u (List.mem_of_mem_take hu)) hge ?_
  have h1 := run_append_grow w t ty e inf z hu hinf hz ⟨g, 0, none⟩ rows.length cap (cur.toList.take (rows.length * inf.size)) hol (fun j v hj => by
   rw [Addr.add_lit, Nat.zero_add, cell_of_row w g j cur e' (0, 0) hg]
   rw [List.getElem?_take] at hj
   split at hj
   ·simpa using hj
   ·cases hj) ad m.length c2 news hnl hncell (by omega) (by omega) (growslice_fits (by omega) hbytes)
  rw [h1]
  simp
theorem flatV_rel {σ : Sg} {m : List (List AV)} {esz : Nat} {f : Nat → Nat → Value} (hml : ∀ (i : Nat) (c : List AV), m[i]? = some c → c.length = esz) (hr : ∀ (i j : Nat) (c : List AV) (a : AV), m[i]? = some c → c[j]? = some a → Rel1 σ (f i j) a) : RelL σ (flatV m.length esz f) m.flatten := by
 have hrl : ∀ l : List (List AV), (∀ c ∈ l, c.length = esz) → l.flatten.length = l.length * esz := by
  intro l
  induction l with
  | nil => intro _; simp
  | cons x l ih => intro hx; rw [List.flatten_cons, List.length_append, List.length_cons, ih fun c hc => hx c (by simp [hc]), hx x (by simp), Nat.add_mul]; omega
 have hmm : ∀ c ∈ m, c.length = esz := fun c hc => by
  obtain ⟨i, hi⟩ := List.getElem?_of_mem hc
  exact hml i c hi
 refine ⟨by rw [flatV_len, hrl m hmm], fun q v a hv ha => ?_⟩
 have hq : q < m.length * esz := by have := (List.getElem?_eq_some_iff.1 hv).1; rwa [flatV_len] at this
 have he : 0 < esz := by
  rcases Nat.eq_zero_or_pos esz with h | h
  ·subst h; omega
  ·exact h
 rw [flatV_at f hq] at hv
 cases hv
 have h1 : q / esz < m.length := Nat.div_lt_of_lt_mul (by rw [Nat.mul_comm]; exact hq)
 have hc : m[q / esz]? = some m[q / esz] := List.getElem?_eq_getElem h1
 have hl := hml _ _ hc
 have h2 : q % esz < (m[q / esz]).length := by rw [hl]; exact Nat.mod_lt _ he
 have hx : (m[q / esz])[q % esz]? = some (m[q / esz])[q % esz] := List.getElem?_eq_getElem h2
 have key : ∀ (l : List (List AV)), (∀ c ∈ l, c.length = esz) → ∀ (i : Nat) (c : List AV), l[i]? = some c → ∀ (j : Nat) x, c[j]? = some x → l.flatten[i * esz + j]? = some x := by
  intro l
  induction l with
  | nil => intro _ i c hc; simp at hc
  | cons y l ih =>
   intro hl i c hc j x hx
   have hy := hl y (by simp)
   cases i with
   | zero =>
    simp at hc
    subst hc
    rw [List.flatten_cons, Nat.zero_mul, Nat.zero_add, List.getElem?_append_left (List.getElem?_eq_some_iff.1 hx).1]
    exact hx
   | succ i =>
    rw [List.flatten_cons, List.getElem?_append_right (by rw [hy, Nat.add_mul]; omega), hy, show (i + 1) * esz + j - esz = i * esz + j by rw [Nat.add_mul]; omega]
    exact ih (fun c hc => hl c (by simp [hc])) i c (by simpa using hc) j x hx
 have h3 := key m hmm _ _ hc _ _ hx
 have h4 : q / esz * esz + q % esz = q := Nat.div_add_mod' q esz
 rw [h4, ha] at h3
 cases h3
 exact hr _ _ _ _ hc hx
theorem sim_appr (h : Conc E G fr st a w) {c : Call} (ho : o.op = .call c) (hc : c.callee = .builtin .append) (hi : opAI P mu gs o = some i) (hs : astep P i rs fr st = some (fr', st', p)) (hp : p) (hn : ∀ d, o.dst = some d → d < E.n) (hap : ∃ d e b x y, i = .appr d e b x y) (hk : Then E fr' st' K) : o.wp P a w K Q := by
 unfold opAI at hi
 rw [ho] at hi
 simp only [hc] at hi
 split at hi
 ·rename_i d x y t u hd hargs' htys'
  have hargs : c.args = #[x, y] := Array.toList_inj.1 hargs'
  have htys : c.argTypes = #[t, u] := Array.toList_inj.1 htys'
  split at hi
  ·rename_i x' y' e hx hy hu
   split at hi
   ·rename_i inf hinf
    split at hi
    ·rename_i z hz
     split at hi
     ·rename_i hcond
      split at hi
      ·cases hi
       simp only [Bool.and_eq_true] at hcond
       obtain ⟨⟨⟨⟨c0, c1⟩, c2⟩, c3⟩, c4⟩ := hcond
       have hz1 : ∀ u ∈ z.cells.toList, u.oneCell' = true := fun u hu => Array.all_eq_true_iff_forall_mem.1 c0 u (by simpa using hu)
       have htu := Nat.eq_of_beq_eq_true c1
       subst htu
       have hzs := Nat.eq_of_beq_eq_true c2
       have hrunW : ∀ v w', (Builtin.append_ #[t, t] o.type #[a.eval x, a.eval y]).run P w = .ok v w' → (execOp a.eval o).run P w = .ok (.value v) w' := by
        intro v w' hv
        simp [execOp, ho, resolve, hc, hargs, htys, invoke, builtin, hv]
       -- the row behind
       have hY2 : ∀ (t2 : Tag) (esz2 : Nat) (m : List (List AV)), y'.ev fr = some (.lst t2 esz2 m) → lstEsz t2 esz2 inf.size → 0 < m.length →
         ∃ ad cap2, a.eval y = .slice (some ad) m.length cap2 ∧ ∃ news : List Value, news.length = m.length * inf.size ∧ (∀ (j : Nat) u, news[j]? = some u → w.cell? (ad.add j) = some u) ∧ (∀ u ∈ news, u.oneCell' = true) ∧ RelL G.σ news m.flatten ∧ ∀ c ∈ m, c.length = inf.size := by
        intro t2 esz2 m hyv he2 hmpos
        have hY := h.ev hy hyv
        obtain ⟨A2, cap2, b2, qq, f2, hv2, p2, p3, p4, p5, p6, _⟩ := lst_open hY
        have hnn : t2 ≠ .nil := fun hnil => by
         have := lst_nil hY hnil
         rw [this] at hmpos
         simp at hmpos
        have hee : esz2 = inf.size := by cases t2 <;> first | exact absurd rfl hnn | exact he2
        subst hee
        have hA2 := p3 hmpos
        subst hA2
        have hr := flatV_rel (f := f2) p4 p6
        exact ⟨_, cap2, hv2, flatV m.length inf.size f2, flatV_len _ _ _, fun j v hj => by rw [Addr.add_lit]; exact h.hold _ _ _ (flatV_cells p5 j v hj), hr.one, hr, fun c hc => by
         obtain ⟨i, hi⟩ := List.getElem?_of_mem hc
         exact p4 i c hi⟩
       simp only [astep] at hs
       split at hs
       ·rename_i id esz' n cap0 t2 esz2 m rows rows' hxv hyv
        split at hs
        ·rename_i cs hbx0 hfd
         cases hs
         obtain ⟨hsp, hcl, he1, hnr, hro, he2, hmpos, hbytes, hlen⟩ := hp
         subst he1 hnr
         obtain ⟨ad, cap2, hv2, news, n1, n2, n3, n4, n5⟩ := hY2 t2 esz2 m hyv he2 hmpos
         obtain ⟨hbx, hmp⟩ := cbox_some hbx0
         obtain ⟨_, hid, _, g0, hv, hg0⟩ := h.ev hx hxv
         obtain ⟨g, hB, hge, _⟩ := h.box id cs false hbx
         rw [← hg0 g hB] at hv
         obtain ⟨hF, _⟩ := FRowW.ofBox h hbx hmp hB hsp hcl hro
         obtain ⟨g', cp, w', hrun, hh, hbb, hgg, hr⟩ := append_frow (P := P) t o.type e hu hinf hz hz1 hzs h.hold (.inr ⟨rfl, hF⟩) (m := m) (c2 := cap2) n1 n2 n3 n4 n5 hmpos hbytes hlen
         unfold Oper.wp
         rw [hrunW _ _ (by rw [hv, hv2]; exact hrun), Oper.upon_value, hd]
         have h2 := h.give hid hbx hB hge hF.free hbb (Ext.refl _ _) hh
         have hup : ∀ id' g', upd G.B id none id' = some g' → id' ≠ id ∧ G.B id' = some g' := fun id' g' hg => by
          rw [upd_at] at hg
          split at hg
          ·cases hg
          ·rename_i e; exact ⟨e, hg⟩
         obtain ⟨G', hG'⟩ := h2.anew (hn d hd) hfd (g := g') (by rcases hgg with e | e; · rw [e]; exact hge
                                                                 ·exact .inl (Nat.le_trans h.lt e)) hr
          (fun id' hid' => by
           obtain ⟨k1, k2⟩ := hup _ _ hid'
           rcases hgg with e | e
           ·subst e; exact k1 (h.binj _ _ _ k2 hB)
           ·have := h.Blt id' g' k2; omega)
          (fun s r hs e' => by
           rcases hgg with e | e
           ·subst e; exact (h.row s r hs).2 id (by rw [e']; exact hB)
           ·have := h.ρlt s r hs; omega)
          (fun k x hk e' => by
           obtain ⟨k1, k2, k3⟩ := h.phi k x hk
           rcases hgg with e | e
           ·subst e; exact k2 id (by rw [e']; exact hB)
           ·have := k1.2.lt; omega)
         exact hk _ _ _ hG'
        ·cases hs
       ·rename_i esz' l0 t2 esz2 m rows rows' hxv hyv
        split at hs
        ·rename_i hfd
         cases hs
         obtain ⟨he2, hmpos, hbytes, hlen⟩ := hp
         obtain ⟨ad, cap2, hv2, news, n1, n2, n3, n4, n5⟩ := hY2 t2 esz2 m hyv he2 hmpos
         have hX := h.ev hx hxv
         have hl0 := lst_nil hX rfl
         subst hl0
         obtain ⟨A, cap, b, q, f, hv, q2, q3, q4, q5, q6, q7, q8, q9⟩ := lst_open hX
         obtain ⟨q81, q82, q83⟩ := q8 rfl
         subst q81
         subst q83
         obtain ⟨g', cp, w', hrun, hh, hbb, hgg, hr⟩ := append_frow (P := P) t o.type e hu hinf hz hz1 hzs h.hold (A := none) (cap := 0) (g := w.heap.size) (rows := []) (.inl ⟨rfl, rfl, rfl, rfl⟩) (m := m) (c2 := cap2) n1 n2 n3 n4 n5 hmpos (by simpa using hbytes) (by simpa using hlen)
         unfold Oper.wp
         rw [hrunW _ _ (by rw [hv, hv2]; exact hrun), Oper.upon_value, hd]
         have hb2 : Below w.heap.size w w' := ⟨hbb.os, hbb.tape, hbb.output, hbb.size, fun k hk => hbb.block k hk (by omega)⟩
         have h2 := h.world hb2 (Ext.refl _ _) hh
         have hge : w.heap.size ≤ g' := by rcases hgg with e | e <;> omega
         obtain ⟨G', hG'⟩ := h2.anew (hn d hd) hfd (g := g') (.inl (Nat.le_trans h.lt hge)) hr
          (fun id' hid' => by have := h.Blt id' g' hid'; omega)
          (fun s r hs e' => by have := h.ρlt s r hs; omega)
          (fun k x hk e' => by obtain ⟨k1, k2, k3⟩ := h.phi k x hk; have := k1.2.lt; omega)
         exact hk _ _ _ hG'
        ·cases hs
       ·cases hs
      ·cases hi
       obtain ⟨_, _, _, _, _, e⟩ := hap
       cases e
     ·cases hi
    ·cases hi
   ·cases hi
  ·cases hi
 ·cases hi
theorem sim_app (h : Conc E G fr st a w) {c : Call} (ho : o.op = .call c) (hc : c.callee = .builtin .append) (hi : opAI P mu gs o = some i) (hs : astep P i rs fr st = some (fr', st', p)) (hp : p) (hn : ∀ d, o.dst = some d → d < E.n) (hnap : ∀ d e b x y, i ≠ .appr d e b x y) (hk : Then E fr' st' K) : o.wp P a w K Q := by
 unfold opAI at hi
 rw [ho] at hi
 simp only [hc] at hi
 split at hi
 ·rename_i d x y t u hd hargs' htys'
  have hargs : c.args = #[x, y] := Array.toList_inj.1 hargs'
  have htys : c.argTypes = #[t, u] := Array.toList_inj.1 htys'
  split at hi
  ·rename_i x' y' e hx hy hu
   split at hi
   ·rename_i inf hinf
    split at hi
    ·rename_i z hz
     split at hi
     ·rename_i hcond
      split at hi
      ·cases hi; exact absurd rfl (hnap _ _ _ _ _)
      cases hi
      simp only [Bool.and_eq_true] at hcond
      obtain ⟨⟨⟨⟨c0, c1⟩, c2⟩, c3⟩, c4⟩ := hcond
      have hz1 : ∀ u ∈ z.cells.toList, u.oneCell' = true := fun u hu => Array.all_eq_true_iff_forall_mem.1 c0 u (by simpa using hu)
      have htu := Nat.eq_of_beq_eq_true c1
      subst htu
      have hzs := Nat.eq_of_beq_eq_true c2
      have hpos : 1 ≤ inf.size := Nat.le_of_ble_eq_true c3
      simp only [astep] at hs
      split at hs
      ·rename_i tg esz' l t2 esz2 m hxv hyv
       cases hs
       obtain ⟨hown, he1, he2, hbytes, hlen, hfull⟩ := hp
       have hrunW : ∀ v w', (Builtin.append_ #[t, t] o.type #[a.eval x, a.eval y]).run P w = .ok v w' → (execOp a.eval o).run P w = .ok (.value v) w' := by
        intro v w' hv
        simp [execOp, ho, resolve, hc, hargs, htys, invoke, builtin, hv]
       obtain ⟨s0, hat, har, htg⟩ := app_slot d hown
       rw [hat, har] at hk
       have hX := h.ev hx hxv
       have hY := h.ev hy hyv
       obtain ⟨A, cap, b, q, f, hv, q2, q3, q4, q5, q6, q7, q8, q9⟩ := lst_open hX
       obtain ⟨A2, cap2, b2, qq, f2, hv2, p2, p3, p4, p5, p6, _⟩ := lst_open hY
       -- the elements' size
       have k4 : ∀ (i : Nat) (cc : List AV), l[i]? = some cc → cc.length = inf.size := by
        intro i cc hcc
        by_cases hnil : tg = .nil
        ·have := (q8 hnil).2.1
         rw [List.eq_nil_of_length_eq_zero this] at hcc
         simp at hcc
        ·have : esz' = inf.size := by cases tg <;> first | exact absurd rfl hnil | exact he1
         rw [← this]; exact q4 i cc hcc
       have k5 : ∀ i j, i < l.length → j < inf.size → G.σ b (q + i * inf.size + j) = some (f i j) := by
        intro i j hil hj
        by_cases hnil : tg = .nil
        ·have := (q8 hnil).2.1; omega
        ·have : esz' = inf.size := by cases tg <;> first | exact absurd rfl hnil | exact he1
         subst this; exact q5 i j hil hj
       have n4 : ∀ (i : Nat) (cc : List AV), m[i]? = some cc → cc.length = inf.size := by
        intro i cc hcc
        by_cases hnil : t2 = .nil
        ·have := (lst_nil hY hnil)
         rw [this] at hcc
         simp at hcc
        ·have : esz2 = inf.size := by cases t2 <;> first | exact absurd rfl hnil | exact he2
         rw [← this]; exact p4 i cc hcc
       have n5 : ∀ i j, i < m.length → j < inf.size → G.σ b2 (qq + i * inf.size + j) = some (f2 i j) := by
        intro i j hil hj
        by_cases hnil : t2 = .nil
        ·have := (lst_nil hY hnil); rw [this] at hil; simp at hil
        ·have : esz2 = inf.size := by cases t2 <;> first | exact absurd rfl hnil | exact he2
         subst this; exact p5 i j hil hj
       -- spare room: none, or a row of the call's own
       have hslack : (cap = l.length ∧ (m.length = 0 → l.length = 0)) ∨ ∃ g, A = some ⟨g, 0, none⟩ ∧ G.ρ s0 (st.row s0) = some ⟨g, l.length, inf.size, cap⟩ := by
        cases tg with
        | nil => have := q8 rfl; exact .inl ⟨by omega, fun _ => this.2.1⟩
        | full => exact .inl ⟨q9 rfl, fun h0 => hfull.elim id fun h1 => by omega⟩
        | any => exact hown.elim
        | own s v =>
         obtain ⟨e1, e2⟩ := htg s v rfl
         have he1' : esz' = inf.size := he1
         subst e1 e2 he1'
         rcases q7 with ⟨h0, A', hv'⟩ | ⟨g, cap', hv', hρ⟩
         ·rw [hv] at hv'; injection hv' with _ _ e3; exact .inl ⟨e3, fun _ => h0⟩
         ·rw [hv] at hv'; injection hv' with e3 _ e4; subst e4; exact .inr ⟨g, e3, hρ⟩
       have hnew : ∀ xx, G.ρ s0 (st.row s0 + 1) = some xx → False := fun xx hq => by have := h.rlt _ _ _ hq; omega
       have hbump := h.bump s0
       have hl47 : l.length + m.length ≤ 140737488355328 := hlen
       by_cases hm0 : m.length = 0
       ·-- nothing is appended
        have hm : m = [] := List.eq_nil_of_length_eq_zero hm0
        subst hm
        have hrun := hrunW _ _ (by rw [hv, hv2]; exact run_append_zero w t o.type e hu hinf A A2 l.length cap cap2 q2)
        unfold Oper.wp
        rw [hrun, Oper.upon_value, hd]
        have hrel : Rel1 G.σ (.slice A l.length cap) (.lst .any inf.size (l ++ [])) := by
         rw [List.append_nil]
         exact .lst .any inf.size l A _ cap b q f rfl q2 q3 k4 k5 q6 trivial
        obtain ⟨G', hG'⟩ := Conc.appEnd (σ' := G.σ) (G := G) hbump (hn d hd) hnew hrel (by
         rcases hslack with ⟨hsl, hl0⟩ | ⟨g, hA, hρ⟩
         ·exact .inl ⟨by simpa using hl0 rfl, A, by rw [hsl]; simp⟩
         ·subst hA
          obtain ⟨hra, hB⟩ := h.row s0 _ hρ
          refine .inr ⟨g, cap, by simp, by simpa using hra, hB, fun s' r' hs' hg => ?_, fun k x hk e => (h.phi k x hk).2.2 _ _ hρ e.symm⟩
          rw [upd_at] at hs'
          split at hs'
          ·rename_i es; subst es; exact hnew _ hs'
          ·rename_i es; exact es (h.rinj s' s0 r' _ hs' hρ hg))
        exact hk _ _ _ hG'
       ·have hmpos : 0 < m.length := by omega
        have hA2 := p3 hmpos
        subst hA2
        have hnl : (flatV m.length inf.size f2).length = m.length * inf.size := flatV_len _ _ _
        have hncell : ∀ (j : Nat) v, (flatV m.length inf.size f2)[j]? = some v → w.cell? ((⟨b2, qq, none⟩ : Addr).add j) = some v := fun j v hj => by
         rw [Addr.add_lit]
         exact h.hold _ _ _ (flatV_cells n5 j v hj)
        have hlone : ∀ v ∈ flatV l.length inf.size f, v.oneCell' = true := by
         intro v hvm
         obtain ⟨j, hj⟩ := List.getElem?_of_mem hvm
         have hjl : j < l.length * inf.size := by have := (List.getElem?_eq_some_iff.1 hj).1; rwa [show (flatV l.length inf.size f).length = l.length * inf.size from flatV_len _ _ _] at this
         rw [flatV_at f hjl] at hj
         cases hj
         have h1 : j / inf.size < l.length := Nat.div_lt_of_lt_mul (by rw [Nat.mul_comm]; exact hjl)
         have h2 : l[j / inf.size]? = some l[j / inf.size] := List.getElem?_eq_getElem h1
         have h3 := k4 _ _ h2
         have h4 : j % inf.size < l[j / inf.size].length := by rw [h3]; exact Nat.mod_lt _ (by omega)
         exact (q6 _ _ _ _ h2 (List.getElem?_eq_getElem h4)).one
        have hnone : ∀ v ∈ flatV m.length inf.size f2, v.oneCell' = true := by
         intro v hvm
         obtain ⟨j, hj⟩ := List.getElem?_of_mem hvm
         have hjl : j < m.length * inf.size := by have := (List.getElem?_eq_some_iff.1 hj).1; rwa [hnl] at this
         rw [flatV_at f2 hjl] at hj
         cases hj
         have h1 : j / inf.size < m.length := Nat.div_lt_of_lt_mul (by rw [Nat.mul_comm]; exact hjl)
         have h2 : m[j / inf.size]? = some m[j / inf.size] := List.getElem?_eq_getElem h1
         have h3 := n4 _ _ h2
         have h4 : j % inf.size < m[j / inf.size].length := by rw [h3]; exact Nat.mod_lt _ (by omega)
         exact (p6 _ _ _ _ h2 (List.getElem?_eq_getElem h4)).one
        by_cases hroom : l.length + m.length ≤ cap
        ·-- room: a row of the call's own
         rcases hslack with hsl | ⟨g, hA, hρ⟩
         ·omega
         ·subst hA
          obtain ⟨⟨hge, e', cur, hg, hrn, ⟨hcs, hcone⟩, hfree⟩, hB⟩ := h.row s0 _ hρ
          simp only at hge hg hrn hcs hfree hB
          have hfit : l.length * inf.size + (flatV m.length inf.size f2).length ≤ cur.size := by
           rw [hnl, hcs, ← Nat.add_mul]; exact Nat.mul_le_mul_right _ hroom
          have hrun := hrunW _ _ (by rw [hv, hv2]; exact run_append_room' w t o.type e e' inf hu hinf g l.length cap cur hg _ m.length cap2 _ hnl hncell hnone hroom hfit)
          unfold Oper.wp
          rw [hrun, Oper.upon_value, hd]
          generalize hnews : flatV m.length inf.size f2 = news at *
          have hcurl : cur.toList.length = cur.size := by simp
          have hat2 : ∀ (j : Nat) v, news[j]? = some v → (cur.toList.take (l.length * inf.size) ++ news ++ cur.toList.drop (l.length * inf.size + news.length)).toArray[l.length * inf.size + j]? = some v := by
           intro j v hj
           have hjl := (List.getElem?_eq_some_iff.1 hj).1
           rw [List.getElem?_toArray, List.append_assoc, List.getElem?_append_right (by rw [List.length_take]; omega), List.length_take, List.getElem?_append_left (by omega), show l.length * inf.size + j - min (l.length * inf.size) cur.toList.length = j by omega]
           exact hj
          have hat1 : ∀ (j : Nat), j < l.length * inf.size → (cur.toList.take (l.length * inf.size) ++ news ++ cur.toList.drop (l.length * inf.size + news.length)).toArray[j]? = cur[j]? := by
           intro j hj
           rw [List.getElem?_toArray, List.append_assoc, List.getElem?_append_left (by rw [List.length_take]; omega), List.getElem?_take, if_pos hj]
           simp
          have hle : G.σ.le fun bb j => if bb = g ∧ l.length * inf.size ≤ j then news[j - l.length * inf.size]? else G.σ bb j := fun bb j v hvv => by
           have : ¬ (bb = g ∧ l.length * inf.size ≤ j) := fun e => by rw [e.1, hfree j e.2] at hvv; cases hvv
           simp only [if_neg this]
           exact hvv
          have hne : ∀ s' r', G.ρ s' (upd st.row s0 (st.row s0 + 1) s') = some r' → r'.g ≠ g := fun s' r' hs' hg' => by
           rw [upd_at] at hs'
           split at hs'
           ·rename_i es; subst es; exact hnew _ hs'
           ·rename_i es; exact es (h.rinj s' s0 r' _ hs' hρ hg')
          have hφ : ∀ k x, G.φ k = some x → x.g ≠ g := fun k x hk e => (h.phi k x hk).2.2 _ _ hρ e.symm
          have hC := hbump.commit hge hg hB hne hφ (new := (cur.toList.take (l.length * inf.size) ++ news ++ cur.toList.drop (l.length * inf.size + news.length)).toArray) hle (fun bb j hbb => if_neg fun e => hbb e.1) (fun j v hvv => by
           replace hvv : (if g = g ∧ l.length * inf.size ≤ j then news[j - l.length * inf.size]? else G.σ g j) = some v := hvv
           by_cases hj : l.length * inf.size ≤ j
           ·rw [if_pos ⟨rfl, hj⟩] at hvv
            have := hat2 _ _ hvv
            rw [show l.length * inf.size + (j - l.length * inf.size) = j by omega] at this
            exact this
           ·rw [if_neg (fun e => hj e.2)] at hvv
            rw [hat1 j (by omega)]
            have h1 := h.hold _ _ _ hvv
            rw [cell_of_row w g j cur e' (0, 0) hg] at h1
            exact h1)
          have hrel : Rel1 (fun bb j => if bb = g ∧ l.length * inf.size ≤ j then news[j - l.length * inf.size]? else G.σ bb j) (.slice (some ⟨g, 0, none⟩) (l.length + m.length) cap) (.lst .any inf.size (l ++ m)) := by
           refine rel_append (f := f) (f2 := f2) k4 n4 (fun i j cc xx h1 h2 => (q6 i j cc xx h1 h2).mono hle) (fun i j cc xx h1 h2 => (p6 i j cc xx h1 h2).mono hle) hroom (fun i j hi hj => ?_) (fun i j hi hj => ?_)
           ·have h1 := k5 i j hi hj
            have h2 := q3 (by omega)
            injection h2 with h2
            injection h2 with h3 h4
            subst h3 h4
            rw [Nat.zero_add] at h1
            exact hle _ _ _ h1
           ·have h1 : news[i * inf.size + j]? = some (f2 i j) := by rw [← hnews]; exact flatV_at2 f2 hi hj
            have h2 : l.length * inf.size ≤ (l.length + i) * inf.size + j := by rw [Nat.add_mul]; omega
            show (if g = g ∧ l.length * inf.size ≤ (l.length + i) * inf.size + j then news[(l.length + i) * inf.size + j - l.length * inf.size]? else G.σ g ((l.length + i) * inf.size + j)) = _
            rw [if_pos ⟨rfl, h2⟩, show (l.length + i) * inf.size + j - l.length * inf.size = i * inf.size + j by rw [Nat.add_mul]; omega]
            exact h1
          refine Exists.elim (Conc.appEnd (G := G) hC (hn d hd) hnew hrel (.inr ⟨g, cap, by simp, ⟨hge, e', _, setRow_heap w g cur _ e' _ hg, by simpa using hroom, ⟨by
            simp only [List.size_toArray, List.length_append, List.length_take, List.length_drop]
            omega, fun u hu => by
            simp only [List.mem_append] at hu
            rcases hu with (hu | hu) | hu
            ·exact hcone u (List.mem_of_mem_take hu)
            ·exact hnone u hu
            ·exact hcone u (List.mem_of_mem_drop hu)⟩, fun j hj => ?_⟩, hB, hne, hφ⟩)) (fun G' hG' => hk _ _ _ hG')
          ·simp only [List.length_append] at hj ⊢
           have h2 : l.length * inf.size ≤ j := by rw [Nat.add_mul] at hj; omega
           simp only [true_and, if_pos h2]
           apply List.getElem?_eq_none
           rw [hnl]
           rw [Nat.add_mul] at hj
           omega
        ·-- a new row
         have hsl : cap < l.length + m.length := by omega
         have fin : ∀ (cells : Array Value) (cap' : Nat), (Builtin.append_ #[t, t] o.type #[a.eval x, a.eval y]).run P w = .ok (.slice (some ⟨w.heap.size, 0, none⟩) (l.length + m.length) cap') (w.drew.alloc (.cells cells e)) → l.length + m.length ≤ cap' →
           (∀ (q : Nat) v, (flatV l.length inf.size f ++ flatV m.length inf.size f2)[q]? = some v → cells[q]? = some v) → cells.size = cap' * inf.size → (∀ u ∈ cells.toList, u.oneCell' = true) → o.wp P a w K Q := by
          intro cells cap' hrun hcap' hcells hcsz hcone
          have hrun := hrunW _ _ hrun
          unfold Oper.wp
          rw [hrun, Oper.upon_value, hd]
          obtain ⟨σ', hle, hC, hσ1, hσ2⟩ := grown_conc hbump (e := e) (esz := inf.size) (n := 0) (flatV l.length inf.size f ++ flatV m.length inf.size f2) hcells
          have hll : (flatV l.length inf.size f).length = l.length * inf.size := flatV_len _ _ _
          have hrel : Rel1 σ' (.slice (some ⟨w.heap.size, 0, none⟩) (l.length + m.length) cap') (.lst .any inf.size (l ++ m)) := by
           refine rel_append (f := f) (f2 := f2) k4 n4 (fun i j cc xx h1 h2 => (q6 i j cc xx h1 h2).mono hle) (fun i j cc xx h1 h2 => (p6 i j cc xx h1 h2).mono hle) hcap' (fun i j hi hj => hσ1 _ _ ?_) (fun i j hi hj => hσ1 _ _ ?_)
           ·have h1 := flatV_at2 f hi hj
            rw [List.getElem?_append_left (List.getElem?_eq_some_iff.1 h1).1]
            exact h1
           ·rw [List.getElem?_append_right (by rw [hll, Nat.add_mul]; omega), hll, show (l.length + i) * inf.size + j - l.length * inf.size = i * inf.size + j by rw [Nat.add_mul]; omega]
            exact flatV_at2 f2 hi hj
          have hBlt : ∀ id g, G.B id = some g → g < w.heap.size := fun id g hgB => by
           cases hbx : st.box id with
           | none => rw [h.bnone id hbx] at hgB; cases hgB
           | some xx =>
            obtain ⟨cs', fz⟩ := xx
            obtain ⟨g', hg', _, t', vs', hh, _⟩ := h.box id cs' fz hbx
            rw [hgB] at hg'
            cases hg'
            exact hh.lt
          refine Exists.elim (Conc.appEnd (G := G) hC (hn d hd) hnew hrel (.inr ⟨w.heap.size, cap', by simp, ⟨.inl h.lt, e, cells, by rw [show w.heap.size = w.drew.heap.size from rfl]; exact heap_alloc_new _ _, by simpa using hcap', ⟨hcsz, hcone⟩, fun j hj => ?_⟩, fun id hid => ?_, fun s' r' hs' hg' => ?_, fun k x hk e => by have := ((h.phi k x hk).1.2).lt; omega⟩)) (fun G' hG' => hk _ _ _ hG')
          ·refine hσ2 j ?_
           simp only [List.length_append] at hj ⊢
           rw [hll, hnl, ← Nat.add_mul]
           exact hj
          ·have := hBlt _ _ hid; omega
          ·rw [upd_at] at hs'
           split at hs'
           ·rename_i es; subst es; exact hnew _ hs'
           ·obtain ⟨⟨_, e2, cur2, k3, _⟩, _⟩ := h.row s' r' hs'
            have := lt_of_heap k3
            omega
         have hll : (flatV l.length inf.size f).length = l.length * inf.size := flatV_len _ _ _
         cases A with
         | none =>
          have hl0 : l.length = 0 := by
           rcases Nat.eq_zero_or_pos l.length with h0 | h0
           ·exact h0
           ·cases q3 h0
          have hcap0 : cap = 0 := by
           rcases hslack with hsl | ⟨g, hA, _⟩
           ·omega
           ·cases hA
          subst hcap0
          have hge := grownCap_ge w m.length 0 e
          refine fin _ (grownCap w m.length 0 e) (by
           rw [hv, hv2, hl0, Nat.zero_add]
           exact run_append_nil w t o.type e inf z hu hinf hz _ m.length cap2 _ hnl hncell hmpos (by omega) (by rw [hl0, Nat.zero_add] at hbytes; omega)) (by omega) (fun q v hq => ?_) ?_ (fun u hu => ?_)
          ·rw [List.eq_nil_of_length_eq_zero (show (flatV l.length inf.size f).length = 0 by rw [hll, hl0, Nat.zero_mul]), List.nil_append] at hq
           rw [Array.getElem?_append_left (by simpa using (List.getElem?_eq_some_iff.1 hq).1)]
           simpa using hq
          ·simp only [Array.size_append, List.size_toArray, size_zeroCells, hnl, hzs, ← Nat.add_mul]
           congr 1
           omega
          ·simp only [Array.toList_append, List.mem_append] at hu
           rcases hu with hu | hu
           ·exact hnone u (by simpa using hu)
           ·exact zeros_one' hz1 _ u hu
         | some ad =>
          have holds : ∀ (j : Nat) v, (flatV l.length inf.size f)[j]? = some v → w.cell? (ad.add j) = some v := fun j v hj => by
           have hjl : j < l.length * inf.size := by have := (List.getElem?_eq_some_iff.1 hj).1; rwa [hll] at this
           have hl0 : 0 < l.length := by
            rcases Nat.eq_zero_or_pos l.length with h0 | h0
            ·rw [h0] at hjl; omega
            ·exact h0
           have := q3 hl0
           cases this
           rw [Addr.add_lit]
           exact h.hold _ _ _ (flatV_cells k5 j v hj)
          have hge := grownCap_ge w (l.length + m.length) cap e
          refine fin _ (grownCap w (l.length + m.length) cap e) (by
           rw [hv, hv2]
           exact run_append_grow w t o.type e inf z hu hinf hz ad l.length cap _ hll holds _ m.length cap2 _ hnl hncell hsl (by omega) (growslice_fits hsl hbytes)) hge (fun q v hq => ?_) ?_ (fun u hu => ?_)
          ·rw [Array.getElem?_append_left (by simpa using (List.getElem?_eq_some_iff.1 hq).1)]
           simpa using hq
          ·simp only [Array.size_append, List.size_toArray, size_zeroCells, hnl, hll, hzs, ← Nat.add_mul]
           congr 1
           omega
          ·simp only [Array.toList_append, List.mem_append] at hu
           rcases hu with hu | hu
           ·rcases List.mem_append.1 (by simpa using hu) with hu | hu
            ·exact hlone u hu
            ·exact hnone u hu
           ·exact zeros_one' hz1 _ u hu
      ·cases hs
     ·cases hi
    ·cases hi
   ·cases hi
  ·cases hi
 ·cases hi
theorem sim_callo (h : Conc E G fr st a w) {c : Call} {f : Operand} (ho : o.op = .call c) (hc : c.callee = .value f) (hi : opAI P mu gs o = some i) (hs : astep P i rs fr st = some (fr', st', p)) (hp : p) (hn : ∀ d, o.dst = some d → d < E.n) (hco : ∃ d f args, i = .callo d f args) (hk : Then E fr' st' K) : o.wp P a w K Q := by
 obtain ⟨d0, f0, args0, hie⟩ := hco
 unfold opAI at hi
 rw [ho] at hi
 simp only [hc] at hi
 split at hi
 ·rename_i f' args hf hargs
  split at hi
  ·cases hi; cases hie
  ·split at hi
   ·cases hi
    cases hie
    simp only [astep] at hs
    split at hs
    ·rename_i fid cap as r hfv hav
     split at hs
     ·rename_i bs hbs
      cases hs
      obtain ⟨us, hfe, hus⟩ := fn_open (h.ev hf hfv).1
      exact call_ac h ho hc hfe hus (evs_rel h hargs hav hbs) hp hn hk
     ·cases hs
    ·rename_i fid cap as esz rows hfv hav
     split at hs
     ·rename_i bs d hbs hd
      cases hs
      obtain ⟨us, hfe, hus⟩ := fn_open (h.ev hf hfv).1
      have hrel := evs_rel h hargs hav hbs
      unfold Oper.wp
      rw [enter_run ho hc hp.cb hfe, Oper.upon_enter]
      refine (hp.run G.σ w _ h.hold (hrel.append hus) (E.gwb h.below)).mono fun e w' ⟨σ1, g, cp, he, hx, hh, hb, hge, e', cur, hg, hsz, hcap, hlen, hr, hone, hfree⟩ => ?_
      subst he
      -- the row's cells stay from now on
      have hcl : cur.toList.length = cp * esz := by simpa using hsz
      have hfl : rows.flatten.length = rows.length * esz := by
       have : ∀ l : List (List AV), (∀ c ∈ l, c.length = esz) → l.flatten.length = l.length * esz := by
        intro l
        induction l with
        | nil => intro _; simp
        | cons x l ih => intro hx; rw [List.flatten_cons, List.length_append, List.length_cons, ih fun c hc => hx c (by simp [hc]), hx x (by simp), Nat.add_mul]; omega
       exact this rows hlen
      have hle1 : σ1.le fun b q => if b = g ∧ q < rows.length * esz then cur[q]? else σ1 b q := fun b q v hv => by
       have : ¬ (b = g ∧ q < rows.length * esz) := fun e => by rw [e.1, hfree] at hv; cases hv
       simp only [if_neg this]
       exact hv
      have hx2 : Ext G.σ (fun b q => if b = g ∧ q < rows.length * esz then cur[q]? else σ1 b q) w.heap.size := ⟨hx.1.trans hle1, fun b q hb => by
       simp only
       rw [if_neg (fun e => by omega)]
       exact hx.2 b q hb⟩
      have hh2 : Holds (fun b q => if b = g ∧ q < rows.length * esz then cur[q]? else σ1 b q) w' := fun b q v hv => by
       simp only at hv
       split at hv
       ·rename_i e
        rw [e.1, cell_of_row w' g q cur e' (0, 0) hg]
        exact hv
       ·exact hh b q v hv
      have h2 := (h.world hb hx2 hh2).bump d
      have hle : rows.length * esz ≤ cp * esz := Nat.mul_le_mul_right _ hcap
      have hrel2 : Rel1 (fun b q => if b = g ∧ q < rows.length * esz then cur[q]? else σ1 b q) (.slice (some ⟨g, 0, none⟩) rows.length cp) (.lst .any esz rows) := by
       refine .lst .any esz rows _ _ cp g 0 (fun i j => cur.getD (i * esz + j) undef) rfl hcap (fun _ => rfl) (fun i c hc => hlen c (List.mem_of_getElem? hc)) (fun i j hi hj => ?_) (fun i j c x hc hx => ?_) trivial
       ·have h1 : (i + 1) * esz ≤ rows.length * esz := Nat.mul_le_mul_right _ (by omega)
        rw [Nat.add_mul] at h1
        have hlt : i * esz + j < cur.size := by omega
        rw [Nat.zero_add]
        simp only
        rw [if_pos ⟨trivial, by omega⟩, Array.getElem?_eq_getElem hlt, Array.getD, dif_pos hlt]
        rfl
       ·have hat : ∀ (l : List (List AV)) (i : Nat), (∀ c ∈ l, c.length = esz) → l[i]? = some c → l.flatten[i * esz + j]? = some x := by
         intro l
         induction l with
         | nil => intro i _ h; simp at h
         | cons y l ih =>
          intro i hl hc
          have hy := hl y (by simp)
          rw [List.flatten_cons]
          cases i with
          | zero =>
           simp at hc
           subst hc
           rw [Nat.zero_mul, Nat.zero_add, List.getElem?_append_left (List.getElem?_eq_some_iff.1 hx).1]
           exact hx
          | succ i =>
           rw [List.getElem?_append_right (by rw [hy, Nat.add_mul]; omega), hy, show (i + 1) * esz + j - esz = i * esz + j by rw [Nat.add_mul]; omega]
           exact ih i (fun c hc => hl c (by simp [hc])) (by simpa using hc)
        obtain ⟨v, hv1, hv2⟩ := (hr.mono hle1).at_ (hat rows i hlen hc)
        rw [List.getElem?_take] at hv1
        split at hv1
        ·have : cur[i * esz + j]? = some v := by simpa using hv1
         simp only [Array.getD_eq_getD_getElem?, this]
         exact hv2
        ·cases hv1
      refine Exists.elim (Conc.appEnd (s0 := d) (G := G) h2 (hn d hd) (fun xx hq => by have := h.rlt _ _ _ hq; omega) hrel2 (.inr ⟨g, cp, rfl, ⟨.inl (Nat.le_trans h.lt hge), e', cur, hg, hcap, ⟨hsz, hone⟩, fun j hj => ?_⟩, fun id hid => by have := h.Blt id g hid; omega, fun s' r' hs' e => ?_, fun k x hk e => by have := ((h.phi k x hk).1.2).lt; omega⟩)) (fun G' hG' => ?_)
      ·simp only at hj ⊢
       rw [if_neg (fun e => by omega)]
       exact hfree j
      ·rw [upd_at] at hs'
       split at hs'
       ·rename_i es; subst es; have := h.rlt _ _ _ hs'; omega
       ·have := h.ρlt s' r' hs'; omega
      ·rw [hd]
       exact hk _ _ _ hG'
     ·cases hs
    ·cases hs
   ·split at hi <;> (cases hi; cases hie)
 ·cases hi
end
end Go.Proofs.YtgidajjjpeboeaaGreatDoor
/-
 The abstract walk: every operation does what its instruction says; a region in the order of the text; instructions apart from each other change places.
-/
namespace Go.Proofs.YtgidajjjpeboeaaGreatDoor
open Go.RowKit
section
variable {P : Program} {mu : List Nat} {E : Env} {G : Gho} {fr fr' : Fr} {st st' : St} {a : Act} {w : World} {o : Oper} {K : Act → World → Prop} {Q : Exit → Act → World → Prop} {p : Prop} {rs : Option RS} {i : AI} {gs : Bool}
theorem sim (h : Conc E G fr st a w) (hi : opAI P mu gs o = some i) (hs : astep P i rs fr st = some (fr', st', p)) (hp : p) (hn : ∀ d, o.dst = some d → d < E.n) (hk : Then E fr' st' K) : o.wp P a w K Q := by
 have bad : (opAI P mu gs o = none) → o.wp P a w K Q := fun e => by rw [e] at hi; cases hi
 cases ho : o.op with
 | move x => exact sim_mov h (.inl ho) hi hs hp hn hk
 | assign x => exact sim_mov h (.inr ho) hi hs hp hn hk
 | pick c x y => exact sim_pick h ho hi hs hp hn hk
 | alloc t => exact sim_alloc h ho hi hs hn hk
 | box t x => exact sim_box h ho hi hs hn hk
 | build t ps => exact sim_build h ho hi hs hn hk
 | buildSlice t n ps => exact sim_bsl h ho hi hs hn hk
 | load t x => exact sim_ld h ho hi hs hp hn hk
 | store t x y => exact sim_st h ho hi hs hp hk
 | binOp op t x y t' => exact sim_bin h ho hi hs hp hn hk
 | unOp op t x => exact sim_un h ho hi hs hn hk
 | convert s t x => exact sim_conv h ho hi hs hp hn hk
 | makeFunc fn first cap => exact sim_mkfn h ho hi hs hn hk
 | slice t x lo hi' mx => exact sim_sub h ho hi hs hp hn hk
 | fieldAddr t x j => exact sim_off h ho hi hs hn hk
 | nilCheck x => exact sim_nilc h ho hi hs hn hk
 | indexAddr t x y => exact sim_idx h ho hi hs hp hn hk
 | index t x y => exact sim_bidx h ho hi hs hp hn hk
 | extract x j => exact sim_ext h ho hi hs hn hk
 | lookup t x y ok =>
  unfold opAI at hi
  rw [ho] at hi
  simp only at hi
  split at hi
  ·rename_i d hd
   split at hi
   ·rename_i ys hys
    cases hi
    exact sim_mop h (mo := .get t ok) (xs := [x, y]) (fun nx w' hr => by unfold execOp; rw [ho]; exact hr) hd.symm (fun e => by cases e) hys hs hp hn hk
   ·cases hi
  ·cases hi
 | mapUpdate t x y z =>
  unfold opAI at hi
  rw [ho] at hi
  simp only at hi
  split at hi
  ·rename_i hd
   split at hi
   ·rename_i ys hys
    cases hi
    exact sim_mop h (mo := .set t) (xs := [x, y, z]) (fun nx w' hr => by unfold execOp; rw [ho]; exact hr) hd.symm (fun _ => hd) hys hs hp hn hk
   ·cases hi
  ·cases hi
 | makeMap t r =>
  cases r with
  | some r => exact bad (by unfold opAI; rw [ho])
  | none =>
   unfold opAI at hi
   rw [ho] at hi
   simp only at hi
   split at hi
   ·rename_i d hd
    cases hi
    exact sim_mop h (mo := .new t) (xs := []) (ts := []) (fun nx w' hr => by unfold execOp; rw [ho]; exact hr) hd.symm (fun e => by cases e) rfl hs hp hn hk
   ·cases hi
 | call c =>
  cases hc : c.callee with
  | value f =>
   by_cases hco : ∃ d f args, i = .callo d f args
   ·exact sim_callo h ho hc hi hs hp hn hco hk
   ·exact sim_call h ho hc hi hs hp hn (fun d f args e => hco ⟨d, f, args, e⟩) hk
  | invoke r m => exact bad (by unfold opAI; rw [ho]; simp only [hc])
  | builtin b =>
   cases b with
   | len =>
    by_cases hmo : ∃ mo d ys, i = .mop mo d ys
    ·unfold opAI at hi
     rw [ho] at hi
     simp only [hc] at hi
     split at hi
     ·rename_i d x t hd hargs' htys'
      have hargs : c.args = #[x] := Array.toList_inj.1 hargs'
      have htys : c.argTypes = #[t] := Array.toList_inj.1 htys'
      split at hi
      ·cases hi; obtain ⟨_, _, _, e⟩ := hmo; cases e
      ·cases hi; obtain ⟨_, _, _, e⟩ := hmo; cases e
      ·rename_i x' _ _ hx hu
       cases hi
       refine sim_mop h (mo := .len t o.type) (xs := [x]) (ts := [t]) (fun nx w' hr => ?_) hd.symm (fun e => by cases e) (by unfold opdsOf; simp [hx, opdsOf]) hs hp hn hk
       simpa [execOp, ho, resolve, hc, hargs, htys, invoke, builtin, moSem] using hr
      ·cases hi
     ·cases hi
    ·exact sim_len0 h ho hc hi hs hn (fun mo d ys e => hmo ⟨mo, d, ys, e⟩) hk
   | delete =>
    unfold opAI at hi
    rw [ho] at hi
    simp only [hc] at hi
    split at hi
    ·rename_i x y t k hargs' htys'
     have hargs : c.args = #[x, y] := Array.toList_inj.1 hargs'
     have htys : c.argTypes = #[t, k] := Array.toList_inj.1 htys'
     split at hi
     ·rename_i ys hys
      cases hi
      refine sim_mop h (mo := .del t k o.type) (xs := [x, y]) (fun nx w' hr => ?_) rfl (fun e => by cases e) hys hs hp hn hk
      simpa [execOp, ho, resolve, hc, hargs, htys, invoke, builtin, moSem] using hr
     ·cases hi
    ·cases hi
   | append =>
    by_cases hap : ∃ d e b x y, i = .appr d e b x y
    ·exact sim_appr h ho hc hi hs hp hn hap hk
    ·exact sim_app h ho hc hi hs hp hn (fun d e b x y e' => hap ⟨d, e, b, x, y, e'⟩) hk
   | max => exact sim_mx h ho hc hi hs hn hk
   | _ => exact bad (by unfold opAI; rw [ho]; simp only [hc])
 | range t x =>
  unfold opAI at hi
  rw [ho] at hi
  simp only at hi
  split at hi
  ·cases hi; cases hs
  ·cases hi
 | next x b =>
  cases b with
  | true => exact bad (by unfold opAI; rw [ho])
  | false =>
   unfold opAI at hi
   rw [ho] at hi
   simp only at hi
   split at hi
   ·cases hi; cases hs
   ·cases hi
 | entry x =>
  unfold opAI at hi
  rw [ho] at hi
  simp only at hi
  split at hi
  ·cases hi; cases hs
  ·cases hi
 | _ => exact bad (by unfold opAI; rw [ho])
theorem gd_beq (b w : Bool) : (some b == some w) = gd b w := by cases b <;> cases w <;> rfl
theorem forceL_eq : ∀ {l r : List Bool}, forceL l = some r → r = l
 | [], r, h => by cases h; rfl
 | b :: l, r, h => by
  simp only [forceL] at h
  split at h
  ·rename_i r' hr
   cases h
   rw [forceL_eq hr]
  ·cases h
theorem ctx_none {ops : Array Oper} {g : Option (Nat × Bool)} (hg : guardOf ops o = some g) (hw : (⟨g, i⟩ : GI).ctx fr = some none) : Region.wanted o (yielded ops a.tmps) = true := by
 unfold guardOf at hg
 unfold Region.wanted
 split at hg
 ·rename_i hn
  rw [hn]
 ·rename_i j want hgd
  split at hg
  ·cases hg
   simp only [GI.ctx] at hw
   split at hw <;> cases hw
  ·cases hg
theorem ctx_some (h : Conc E G fr st a w) {ops : Array Oper} {g : Option (Nat × Bool)} (hg : guardOf ops o = some g) {c : Bool} (hw : (⟨g, i⟩ : GI).ctx fr = some (some c)) : Region.wanted o (yielded ops a.tmps) = c := by
 unfold guardOf at hg
 unfold Region.wanted
 split at hg
 ·cases hg; cases hw
 ·rename_i j want hgd
  rw [hgd]
  split at hg
  ·rename_i d hd
   cases hg
   have key : ∀ lit, a.tmps.getD d undef = .bool lit → yielded ops a.tmps j = some lit := by
    intro lit hv
    unfold yielded
    rw [hd]
    simp only [Option.bind_some]
    cases hq : a.tmps[d]? with
    | none => simp [Array.getD_eq_getD_getElem?, hq, undef] at hv
    | some v =>
     have : v = .bool lit := by simpa [Array.getD_eq_getD_getElem?, hq] using hv
     rw [this]
   have keyu : a.tmps.getD d undef = undef → yielded ops a.tmps j = none := by
    intro hv
    unfold yielded
    rw [hd]
    simp only [Option.bind_some]
    cases hq : a.tmps[d]? with
    | none => rfl
    | some v =>
     have : v = undef := by simpa [Array.getD_eq_getD_getElem?, hq] using hv
     rw [this]
     rfl
   simp only [GI.ctx] at hw
   split at hw
   ·rename_i b hl
    cases hw
    simp only
    rw [key _ (h.slots d _ hl).bool, gd_beq]
   ·rename_i c0 b hl
    cases hw
    cases c0 with
    | true =>
     have h1 : RelS G (a.tmps.getD d undef) (.bool b) := (h.slots d _ hl).1 rfl
     simp only
     rw [key _ h1.bool, gd_beq, Bool.true_and]
    | false =>
     simp only
     rw [keyu ((h.slots d _ hl).2 rfl)]
     rfl
   ·cases hw
  ·cases hg
theorem memN_iff {s : Nat} : ∀ {l : List Nat}, memN s l = true ↔ s ∈ l
 | [] => by simp [memN]
 | x :: l => by
  simp only [memN, List.mem_cons]
  split
  ·rename_i hb
   simp [Nat.eq_of_beq_eq_true hb]
  ·rename_i hb
   have : s ≠ x := fun e => by rw [e, Nat.beq_refl] at hb; cases hb
   simp [this, memN_iff]
theorem avail_mem {fr : Fr} : ∀ {l : List Nat}, allT (availB fr l) → ∀ s ∈ l, ∀ c x, fr s = some (.when c x) → c = true
 | [], _, s, hs, _, _, _ => by cases hs
 | y :: l, h, s, hs, c, x, hc => by
  simp only [availB] at h
  rcases List.mem_cons.1 hs with rfl | hs
  ·rw [hc] at h
   exact h.1
  ·split at h
   ·exact avail_mem h.2 s hs c x hc
   ·exact avail_mem h s hs c x hc
theorem Conc.unwr (h : Conc E G fr st a w) {l : List Nat} (ha : allT (availB fr l)) : Conc E G (Proofs.YtgidajjjpeboeaaGreatDoor.unwr fr l) st a w :=
 { h with
   slots := fun s x hs => by
    unfold Proofs.YtgidajjjpeboeaaGreatDoor.unwr at hs
    split at hs
    ·rename_i hm
     split at hs
     ·rename_i c y hy
      split at hs
      case h_2 => cases hs; exact h.slots s _ hy
      cases hs
      have h1 := (h.slots s _ hy).1 (avail_mem ha s (memN_iff.1 hm) c _ hy)
      cases x <;> first
       | exact h1
       | exact h1.elim
     ·exact h.slots s x hs
    ·exact h.slots s x hs
   pnone := fun k hk => h.pnone k (by
    unfold Proofs.YtgidajjjpeboeaaGreatDoor.unwr at hk
    split at hk
    ·split at hk
     ·split at hk <;> cases hk
     ·exact hk
    ·exact hk) }
theorem Conc.rewr {l : List Nat} {d : Nat} {v : AV} {c : Bool} (ha : allT (availB fr l)) (hc : c = true) (hv : v.isWhen = false) (h : Conc E G (put1 (Proofs.YtgidajjjpeboeaaGreatDoor.unwr fr l) d v) st a w) : Conc E G (upd fr d (some (.when c v))) st a w :=
 { h with
   slots := fun s x hs => by
    have hsl := h.slots s
    simp only [put1, upd_at] at hs hsl
    split at hs
    ·rename_i e
     cases hs
     rw [if_pos e] at hsl
     have h1 := hsl v rfl
     refine ⟨fun _ => ?_, (fun e => by rw [hc] at e; cases e)⟩
     cases v <;> first
      | exact h1
      | cases hv
    ·rename_i e
     rw [if_neg e] at hsl
     unfold Proofs.YtgidajjjpeboeaaGreatDoor.unwr at hsl
     split at hsl
     ·rename_i hm
      cases x with
      | when c' y =>
       rw [hs] at hsl
       simp only at hsl
       split at hsl
       ·rename_i hnw
        have hct := avail_mem ha s (memN_iff.1 hm) c' y hs
        have h1 := hsl y rfl
        refine ⟨fun _ => ?_, (fun e => by rw [hct] at e; cases e)⟩
        cases y <;> first
         | exact h1
         | cases hnw
       ·exact hsl _ rfl
      | _ =>
       rw [hs] at hsl
       exact hsl _ rfl
     ·exact hsl x hs
   pnone := fun k hk => h.pnone k (by
    simp only [put1, upd_at] at hk ⊢
    split at hk
    ·cases hk
    ·rename_i e
     rw [if_neg e]
     unfold Proofs.YtgidajjjpeboeaaGreatDoor.unwr
     rw [hk]
     split <;> rfl) }
theorem still_put {i : AI} (hst : i.still = true) {d : Nat} (hd : i.dst = some d) {rs : Option RS} {fr f : Fr} {st s : St} {p : Prop} (h : astep P i rs fr st = some (f, s, p)) : s = st ∧ ∃ v, f = put1 fr d v := by
 unfold AI.still at hst
 cases i <;> simp only [AI.cl, Bool.false_eq_true] at hst <;> simp only [AI.dst, reduceCtorEq, Option.some.injEq] at hd
 all_goals
  (first | subst hd | skip)
  simp only [astep] at h
  (repeat' (split at h)) <;> first
   | (cases h; exact ⟨rfl, _, rfl⟩)
   | (cases h; done)
   | (cases h; refine ⟨rfl, _, (congrArg (fun k => put1 fr k _) (Option.some.inj (by assumption : some d = some _))).symm⟩)
   | (cases h; cases hd)
theorem dst_of_eq {x y : Option Nat} (h : dstEq x y = true) : x = y := by
 cases x with
 | none => cases y with
  | none => rfl
  | some b => cases h
 | some a => cases y with
  | none => cases h
  | some b => rw [Nat.eq_of_beq_eq_true h]
def At (P : Program) (mu : List Nat) (ops : Array Oper) (gl : List GI) : Prop := gl.length = ops.size ∧ ∀ (k : Nat) o x, ops[k]? = some o → gl[k]? = some x → guardOf ops o = some x.g ∧ opAI P mu (isGuard ops k) o = some x.i ∧ x.i.dst = o.dst
theorem at_aux {ops : Array Oper} : ∀ {l : List Oper} {k : Nat} {gl : List GI}, opsGI P mu ops k l = some gl → gl.length = l.length ∧ ∀ (j : Nat) o x, l[j]? = some o → gl[j]? = some x → guardOf ops o = some x.g ∧ opAI P mu (isGuard ops (k + j)) o = some x.i ∧ x.i.dst = o.dst
 | [], k, gl, h => by cases h; exact ⟨rfl, fun j o x ho => by simp at ho⟩
 | o :: l, k, gl, h => by
  unfold opsGI at h
  split at h
  ·rename_i g i r hg hi hr
   split at h
   ·rename_i hd
    cases h
    obtain ⟨h1, h2⟩ := at_aux hr
    refine ⟨by simp [h1], fun j o' x ho hx => ?_⟩
    cases j with
    | zero => simp at ho hx; subst ho hx; exact ⟨hg, hi, dst_of_eq hd⟩
    | succ j =>
     have := h2 j o' x (by simpa using ho) (by simpa using hx)
     rw [show k + (j + 1) = k + 1 + j by omega]
     exact this
   ·cases h
  ·cases h
theorem at_of {ops : Array Oper} {gl : List GI} (h : opsGI P mu ops 0 ops.toList = some gl) : At P mu ops gl := by
 obtain ⟨h1, h2⟩ := at_aux h
 refine ⟨by simpa using h1, fun k o x ho hx => ?_⟩
 have := h2 k o x (by simpa using ho) hx
 rwa [Nat.zero_add] at this
theorem gsim (h : Conc E G fr st a w) {ops : Array Oper} {gl : List GI} (hat : At P mu ops gl) {k : Nat} {o : Oper} {x : GI} (ho : ops[k]? = some o) (hx : gl[k]? = some x) (hs : gstep P x rs fr st = some (fr', st', p)) (hp : p) (hn : ∀ d, x.i.dst = some d → d < E.n) (hk : Then E fr' st' K) :
  if Region.wanted o (yielded ops a.tmps) then o.wp P a w K Q else K (a.put o.dst undef) w := by
 obtain ⟨h1, h2, h3⟩ := hat.2 k o x ho hx
 obtain ⟨g, ai⟩ := x
 unfold gstep at hs
 split at hs
 ·rename_i hw
  rw [ctx_none (i := ai) h1 hw, if_pos rfl]
  exact sim h h2 hs hp (fun d hd => hn d (by rw [← hd]; exact h3)) hk
 ·rename_i c hw
  split at hs
  ·rename_i d hst hd
   split at hs
   ·rename_i fr2 s2 p2 ha
    split at hs
    ·rename_i v hv
     split at hs
     ·rename_i bs hnw hbs
      have hbs' := forceL_eq hbs
      subst hbs'
      cases hs
      obtain ⟨e1, v2, e2⟩ := still_put hst hd ha
      subst e1 e2
      unfold put1 at hv
      rw [upd_same] at hv
      cases hv
      cases c with
      | true =>
       obtain ⟨hp1, hp2⟩ := hp rfl
       rw [ctx_some (i := ai) h h1 hw, if_pos rfl]
       exact sim (h.unwr hp2) h2 ha hp1 (fun d hd => hn d (by rw [← hd]; exact h3)) fun G' a' w' hC => hk _ _ _ (hC.rewr hp2 rfl hnw)
      | false =>
       rw [ctx_some (i := ai) h h1 hw, if_neg (by simp), ← h3, hd]
       exact hk _ _ _ (h.putW (hn d hd) ⟨(fun e => by cases e), fun _ => rfl⟩)
     ·cases hs
    ·cases hs
   ·cases hs
  ·split at hs
   ·split at hs
    ·rename_i ha
     split at hs
     ·rename_i bs hbs
      have hbs' := forceL_eq hbs
      subst hbs'
      cases hs
      obtain ⟨hc1, hp1, hp2⟩ := hp
      subst hc1
      rw [ctx_some (i := ai) h h1 hw, if_pos rfl]
      exact sim (h.unwr hp2) h2 ha hp1 (fun d hd => hn d (by rw [← hd]; exact h3)) hk
     ·cases hs
    ·cases hs
   ·cases hs
 ·cases hs
def asteps (P : Program) : List (GI × Option RS) → Fr → St → Option (Fr × St × Prop)
 | [], fr, st => some (fr, st, True)
 | (x, rs) :: l, fr, st => match gstep P x rs fr st with
  | some (fr, st, p) => match asteps P l fr st with
   | some (fr, st, q) => some (fr, st, p ∧ q)
   | none => none
  | none => none
theorem silent_true {i : AI} {rs : Option RS} {fr f : Fr} {st s : St} {p : Prop} (hs : i.silent = true) (hl : i.loud fr = false) (h : astep P i rs fr st = some (f, s, p)) : p := by
 cases i <;> simp only [AI.silent, Bool.false_eq_true] at hs
 case bin d op bt x y =>
  simp only [astep] at h
  split at h
  ·split at h
   ·rename_i u v _ _ c q hb
    cases h
    unfold binAV at hb
    split at hb
    ·split at hb
     ·cases hs
     ·cases hs
     ·split at hb
      ·cases op <;> simp only [Bool.false_eq_true] at hs <;> (cases hb; trivial)
      ·cases hb
    ·cases op <;> simp only [Bool.false_eq_true] at hs <;> first | (cases hb; trivial) | cases hb
    ·split at hb
     ·cases op <;> simp only [Bool.false_eq_true] at hs <;> first | (cases hb; trivial) | cases hb
     ·cases hb
    ·cases hb
   ·cases h
  ·cases h
 all_goals
  simp only [astep] at h
  (repeat' (split at h)) <;> first
   | (cases h; trivial)
   | (cases h; done)
   | (exfalso; simp [AI.loud, *] at hl)
theorem silent_soft {i : AI} (h : i.silent = true) : i.cl ≠ .hard := by
 cases i <;> simp [AI.silent, AI.cl] at h ⊢
theorem quiet_true {x : GI} {rs : Option RS} {fr f : Fr} {st s : St} {p : Prop} (hq : x.quiet fr = true) (h : gstep P x rs fr st = some (f, s, p)) : p := by
 unfold GI.quiet at hq
 split at hq
 ·rename_i hs
  unfold gstep at h
  split at hq
  ·rename_i hc
   rw [hc] at h
   exact silent_true hs (by simpa using hq) h
  ·rename_i c hc
   rw [hc] at h
   simp only at h
   split at hq
   ·rename_i ha
    split at h
    ·split at h
     ·rename_i hst
      split at h
      ·split at h
       ·rename_i bs _ hbs
        cases h
        exact fun _ => ⟨silent_true hs (by simpa using hq) hst, by rw [forceL_eq hbs, ha]; trivial⟩
       ·cases h
      ·cases h
     ·cases h
    ·split at h
     ·rename_i hhd
      exact absurd hhd (silent_soft hs)
     ·cases h
   ·cases hq
  ·cases hq
 ·cases hq
theorem arun_asteps : ∀ {gl : List GI} {rs rs' : List RS} {fr fr' : Fr} {st st' : St} {p : Prop}, arun P gl rs fr st = some (rs', fr', st', p) → ∃ l : List (GI × Option RS), l.map (·.1) = gl ∧ ∃ q, asteps P l fr st = some (fr', st', q) ∧ (p → q)
 | [], rs, rs', fr, fr', st, st', p, h => by cases h; exact ⟨[], rfl, _, rfl, id⟩
 | x :: gl, rs, rs', fr, fr', st, st', p, h => by
  unfold arun at h
  split at h
  ·split at h
   ·rename_i r rs0
    split at h
    ·rename_i f1 s1 p1 hs
     split at h
     ·rename_i r2 f2 s2 q2 hr
      cases h
      obtain ⟨l, h1, q, h2, h3⟩ := arun_asteps hr
      refine ⟨(x, some r) :: l, by simp [h1], p1 ∧ q, ?_, fun hh => ⟨hh.1, h3 hh.2⟩⟩
      simp only [asteps, hs, h2]
     ·cases h
    ·cases h
   ·cases h
  ·split at h
   ·rename_i f1 s1 p1 hq hs
    obtain ⟨l, h1, q, h2, h3⟩ := arun_asteps h
    refine ⟨(x, none) :: l, by simp [h1], p1 ∧ q, ?_, fun hh => ⟨quiet_true hq hs, h3 hh⟩⟩
    simp only [asteps, hs, h2]
   ·rename_i f1 s1 p1 hq hs
    split at h
    ·rename_i r2 f2 s2 q2 hr
     cases h
     obtain ⟨l, h1, q, h2, h3⟩ := arun_asteps hr
     refine ⟨(x, none) :: l, by simp [h1], p1 ∧ q, ?_, fun hh => ⟨hh.1, h3 hh.2⟩⟩
     simp only [asteps, hs, h2]
    ·cases h
   ·cases h
def dstsLt (n : Nat) (gl : List GI) : Bool := gl.all fun x => match x.i.dst with | some d => Nat.blt d n | none => true
theorem dstsLt_at {n : Nat} {gl : List GI} (h : dstsLt n gl = true) {k : Nat} {x : GI} (hx : gl[k]? = some x) : ∀ d, x.i.dst = some d → d < n := by
 intro d hd
 have := List.all_eq_true.1 h x (List.mem_of_getElem? hx)
 rw [hd] at this
 simp only at this
 have h2 : Nat.ble (d + 1) n = true := this
 exact Nat.le_of_ble_eq_true h2
theorem seq_run {ops : Array Oper} {gl : List GI} (hat : At P mu ops gl) (hd : dstsLt E.n gl = true) (hQ : ∀ G a w, Conc E G fr' st' a w → Q .normal a w) :
  ∀ {l : List (GI × Option RS)} {k : Nat} {fr : Fr} {st : St} {p : Prop} {G : Gho} {a : Act} {w : World}, (∀ j, (l.map (·.1))[j]? = gl[k + j]?) → k + l.length = ops.size → asteps P l fr st = some (fr', st', p) → p → Conc E G fr st a w →
   wpOps P ops Q (List.range' k l.length) a w
 | [], k, fr, st, p, G, a, w, _, _, hs, _, h => by cases hs; exact hQ _ _ _ h
 | (x, rs) :: l, k, fr, st, p, G, a, w, hl, hlen, hs, hp, h => by
  unfold asteps at hs
  split at hs
  ·rename_i f1 s1 p1 h1
   split at hs
   ·rename_i f2 s2 q2 h2
    cases hs
    have hx : gl[k]? = some x := by simpa using (hl 0).symm
    have hk : k < ops.size := by simp at hlen; omega
    have ho : ops[k]? = some ops[k] := Array.getElem?_eq_getElem hk
    rw [List.length_cons, List.range'_succ]
    simp only [wpOps, ho]
    have hg := gsim (Q := Q) (K := wpOps P ops Q (List.range' (k + 1) l.length)) h hat ho hx h1 hp.1 (dstsLt_at hd hx) (fun G' a' w' hc => seq_run hat hd hQ (fun j => by
     have := hl (j + 1)
     simp only [List.map_cons, List.getElem?_cons_succ] at this
     rw [this, show k + (j + 1) = k + 1 + j by omega]) (by simp at hlen; omega) h2 hp.2 hc)
    split at hg
    ·rename_i hw; rw [if_pos hw]; exact .inl hg
    ·rename_i hw; rw [if_neg hw]; exact hg
   ·cases hs
  ·cases hs
end
end Go.Proofs.YtgidajjjpeboeaaGreatDoor
