/-
  The abstract walk: structs and slices written out, closures, parts of strings and slices.
-/
import Derived.Test.YtpcddcfpbohogaaDoorA6
namespace Go.Proofs.YtpcddcfpbohogaaDoor
set_option linter.unusedSimpArgs false
set_option linter.unusedVariables false
open Go.RowKit

section
variable {P : Program} {mu : List Nat} {E : Env} {G : Gho} {fr fr' : Fr} {st st' : St} {a : Act} {w : World} {o : Oper} {K : Act → World → Prop} {Q : Exit → Act → World → Prop} {p : Prop} {rs : Option RS} {i : AI} {gs : Bool}

theorem foldl_set (off : Nat) : ∀ (vs : List Value) (k : Nat) (cells : Array Value), off + k + vs.length ≤ cells.size →
    ((vs.zipIdx k).foldl (fun cs (x : Value × Nat) => cs.setIfInBounds (off + x.2) x.1) cells).toList = cells.toList.take (off + k) ++ vs ++ cells.toList.drop (off + k + vs.length)
  | [], k, cells, _ => by simp
  | v :: vs, k, cells, h => by
    simp only [List.zipIdx_cons, List.foldl_cons]
    rw [foldl_set off vs (k + 1) _ (by simp at h ⊢; omega)]
    have e := list_seg_step cells.toList (off + k) v vs (by simp at h ⊢; omega)
    simpa [Array.toList_setIfInBounds, Nat.add_assoc] using e
theorem fill_rel (h : Conc E G fr st a w) {place : Nat → Option (Nat × Nat × TypeId)} {place' : Nat → Option (Nat × Nat)} (hpl : ∀ i off size t, place i = some (off, size, t) → place' i = some (off, size)) :
    ∀ {ps : List (Nat × Operand)} {aps : List (Nat × Nat × Opd)} {zs cs : List AV} {zv : Array Value}, partsOf P place ps = some aps → afill fr zs aps = some cs → RelL G.σ zv.toList (zs.map AV.unown) → TagsOk G zv.toList zs →
      ∃ cells, Instr.fill place' zv (ps.map fun x => (x.1, a.eval x.2)) = some cells ∧ RelL G.σ cells.toList (cs.map AV.unown) ∧ TagsOk G cells.toList cs
  | [], aps, zs, cs, zv, h1, h2, h3, h4 => by
    cases h1
    cases h2
    exact ⟨zv, rfl, h3, h4⟩
  | (i, x) :: ps, aps, zs, cs, zv, h1, h2, h3, h4 => by
    unfold partsOf at h1
    split at h1
    · rename_i off size t hp
      split at h1
      · rename_i y l hy hl hb
        cases h1
        unfold afill at h2
        split at h2
        · rename_i c hc
          split at h2
          · rename_i cs' hcs
            split at h2
            · rename_i hbq
              split at h2
              · rename_i zs' hsp
                obtain ⟨r1, r2⟩ := (h.ev hy hc).cells hcs
                have hsz := Nat.eq_of_beq_eq_true hbq
                have hpos : 1 ≤ size := Nat.le_of_ble_eq_true hb
                obtain ⟨q1, q2, q3⟩ := splice_spec hsp
                have hne : cs' ≠ [] := fun e => by rw [e] at hsz; simp at hsz; omega
                have hle := q2 hne
                have hvl : zv.toList.length = zs.length := by simpa using h3.1
                have hul : (a.eval x).cells.toList.length = cs'.length := by simpa using r1.1
                have hsp2 := h3.splice h4 r1 r2 hsp (by rw [hvl, hul]; exact hle)
                have hfold : ((a.eval x).cells.zipIdx.foldl (fun cs (x : Value × Nat) => cs.setIfInBounds (off + x.2) x.1) zv).toList = zv.toList.take off ++ (a.eval x).cells.toList ++ zv.toList.drop (off + (a.eval x).cells.toList.length) := by
                  have := foldl_set off (a.eval x).cells.toList 0 zv (by simp at hvl hul ⊢; omega)
                  rw [← Array.foldl_toList, Array.toList_zipIdx]
                  simpa using this
                rw [← hfold] at hsp2
                obtain ⟨cells, k1, k2, k3⟩ := fill_rel h hpl hl h2 hsp2.1 hsp2.2
                refine ⟨cells, ?_, k2, k3⟩
                simp only [List.map_cons, Instr.fill, hpl i off size t hp]
                have e1 : ((a.eval x).cells.size ≠ size || decide (off + (a.eval x).cells.size > zv.size)) = false := by
                  simp at hvl hul ⊢
                  omega
                rw [if_neg (by simpa using e1)]
                exact k1
              · cases h2
            · cases h2
          · cases h2
        · cases h2
      · cases h1
    · cases h1
theorem zero_rel {t : TypeId} {z : List AV} (hz : zeroAV P t = some z) : ∃ inf v, P.info? t = some inf ∧ inf.zero = some v ∧ RelL G.σ v.cells.toList (z.map AV.unown) ∧ TagsOk G v.cells.toList z := by
  unfold zeroAV at hz
  split at hz
  · rename_i inf hinf
    split at hz
    · rename_i v hv
      obtain ⟨h1, h2⟩ := zeroCells_rel (G := G) hz
      exact ⟨inf, v, hinf, hv, h1, h2⟩
    · cases hz
  · cases hz
theorem sim_build (h : Conc E G fr st a w) {t : TypeId} {ps : Array (Nat × Operand)} (ho : o.op = .build t ps) (hi : opAI P mu gs o = some i) (hs : astep P i rs fr st = some (fr', st', p)) (hn : ∀ d, o.dst = some d → d < E.n) (hk : Then E fr' st' K) : o.wp P a w K Q := by
  unfold opAI at hi
  rw [ho] at hi
  simp only at hi
  split at hi
  · rename_i d z fs hd hz hu
    split at hi
    · rename_i pl hpl
      split at hi
      · rename_i l hl
        cases hi
        simp only [astep] at hs
        split at hs
        · rename_i cs hcs
          cases hs
          obtain ⟨inf, zv, hinf, hzv, hz1, hz2⟩ := zero_rel (G := G) hz
          obtain ⟨cells, k1, k2, k3⟩ := fill_rel h (place' := (pl.toArray[·]?)) (fun i off size t' hp => by
            split at hp
            · rename_i h1 h2; cases hp; exact h1
            · cases hp) hl hcs hz1 hz2
          have hb : P.built t (ps.toList.map fun x => (x.1, a.eval x.2)) = some cells := by
            simp only [Program.built, hinf, hu, hzv, hpl]
            exact k1
          have hrun := run_build (P := P) w t (ps.map fun x => (x.1, a.eval x.2)) cells (by simpa using hb)
          exact sim_value h (v := .agg cells) (by simp [execOp, ho, hrun]) hd (hn d hd) (x := .agg cs) ⟨cells.toList, by simp, k2, k3⟩ hk
        · cases hs
      · cases hi
    · cases hi
  · cases hi

theorem chunk_spec {esz : Nat} : ∀ {n : Nat} {cs : List AV} {l : List (List AV)}, chunk esz n cs = some l → cs.length = n * esz ∧ l.length = n ∧ ∀ (i : Nat) (c : List AV), l[i]? = some c → c = ((cs.drop (i * esz)).take esz).map AV.plain ∧ c.length = esz
  | 0, [], l, h => by cases h; exact ⟨by simp, rfl, fun i c hc => by simp at hc⟩
  | 0, _ :: _, l, h => by cases h
  | n + 1, cs, l, h => by
    unfold chunk at h
    split at h
    · rename_i c cs' h1 h2
      split at h
      · rename_i r hr
        cases h
        obtain ⟨a1, a2⟩ := takeN_spec h1
        obtain ⟨b1, b2⟩ := dropN_spec h2
        obtain ⟨c1, c2, c3⟩ := chunk_spec hr
        refine ⟨?_, by simp [c2], fun i c' hc' => ?_⟩
        · rw [b1, List.length_drop] at c1
          rw [Nat.add_mul]
          omega
        · cases i with
          | zero => simp at hc'; subst hc'; exact ⟨by rw [a1]; simp, by simp [a2]⟩
          | succ i =>
            obtain ⟨d1, d2⟩ := c3 i c' (by simpa using hc')
            refine ⟨?_, d2⟩
            rw [d1, b1, List.drop_drop, Nat.add_mul, Nat.one_mul, Nat.add_comm]
      · cases h
    · cases h
/-- a new block whose cells stay -/
theorem Conc.newrow (h : Conc E G fr st a w) (vs : Array Value) (t : TypeId) : Conc E { G with σ := fun b q => if b = w.heap.size then vs[q]? else G.σ b q } fr st a (w.alloc (.cells vs t)) := by
  refine h.world ((Below.refl _ _).alloc (Nat.le_refl _) _) ⟨fun b q v hv => ?_, fun b q hb => if_neg (by omega)⟩ fun b q v hv => ?_
  · have : b ≠ w.heap.size := fun e => by rw [e, h.fresh] at hv; cases hv
    simp only [if_neg this]
    exact hv
  · split at hv
    · rename_i e
      subst e
      rw [World.cell?_alloc_at _ _ _ _ rfl]
      exact hv
    · have h1 := h.hold b q v hv
      rw [World.cell?_alloc_lt w _ _ (World.block_lt_of_cell? w _ h1)]
      exact h1
theorem Conc.newrow_le (h : Conc E G fr st a w) (vs : Array Value) : G.σ.le fun b q => if b = w.heap.size then vs[q]? else G.σ b q := fun b q v hv => by
  have : b ≠ w.heap.size := fun e => by rw [e, h.fresh] at hv; cases hv
  simp only [if_neg this]
  exact hv
theorem flat_rep (z : List AV) : ∀ (n j : Nat), (List.replicate n z).flatten[j]? = if j < n * z.length then z[j % z.length]? else none
  | 0, j => by simp
  | n + 1, j => by
    rw [List.replicate_succ, List.flatten_cons]
    by_cases hj : j < z.length
    · rw [List.getElem?_append_left hj, if_pos (by rw [Nat.add_mul]; omega), Nat.mod_eq_of_lt hj]
    · rw [List.getElem?_append_right (by omega), flat_rep z n]
      rw [Nat.mod_eq_sub_mod (show j ≥ z.length by omega)]
      by_cases h2 : j - z.length < n * z.length
      · rw [if_pos h2, if_pos (by rw [Nat.add_mul]; omega)]
      · rw [if_neg h2, if_neg (by rw [Nat.add_mul]; omega)]
theorem zeros_rel {zv : Array Value} {z : List AV} (hz1 : RelL G.σ zv.toList (z.map AV.unown)) (hz2 : TagsOk G zv.toList z) (n size : Nat) (hsz : z.length = size) (hpos : 0 < size) (u : Array Value) (hu : u.size = n * size) (hc : ∀ j, j < n * size → u[j]? = zv[j % size]?) :
    RelL G.σ u.toList (((List.replicate n z).flatten).map AV.unown) ∧ TagsOk G u.toList (List.replicate n z).flatten := by
  subst hsz
  have hzl : zv.size = z.length := by simpa using hz1.1
  refine ⟨⟨by simp [hu, List.length_flatten], fun j v c hv hcc => ?_⟩, fun j v c hv hcc => ?_⟩
  · rw [List.getElem?_map, flat_rep] at hcc
    have hj : j < n * z.length := by
      have := (List.getElem?_eq_some_iff.1 hv).1
      simp [hu] at this
      exact this
    rw [if_pos hj] at hcc
    have h1 : u[j]? = some v := by simpa using hv
    rw [hc j hj] at h1
    exact hz1.2 (j % z.length) v c (by simpa using h1) (by rw [List.getElem?_map]; exact hcc)
  · rw [flat_rep] at hcc
    have hj : j < n * z.length := by
      have := (List.getElem?_eq_some_iff.1 hv).1
      simp [hu] at this
      exact this
    rw [if_pos hj] at hcc
    have h1 : u[j]? = some v := by simpa using hv
    rw [hc j hj] at h1
    exact hz2 (j % z.length) v c (by simpa using h1) hcc
theorem sim_bsl (h : Conc E G fr st a w) {t : TypeId} {n : Nat} {ps : Array (Nat × Operand)} (ho : o.op = .buildSlice t n ps) (hi : opAI P mu gs o = some i) (hs : astep P i rs fr st = some (fr', st', p)) (hn : ∀ d, o.dst = some d → d < E.n) (hk : Then E fr' st' K) : o.wp P a w K Q := by
  unfold opAI at hi
  rw [ho] at hi
  simp only at hi
  split at hi
  · rename_i d e hd hu
    split at hi
    · rename_i inf z hinf hz
      split at hi
      · rename_i hcond
        obtain ⟨hpos, hbig, hzl⟩ := hcond
        split at hi
        · rename_i l hl
          cases hi
          simp only [astep] at hs
          split at hs
          · rename_i cs hcs
            split at hs
            · rename_i rows hrows
              cases hs
              obtain ⟨inf', zv, hinf', hzv, hz1, hz2⟩ := zero_rel (G := G) hz
              rw [hinf] at hinf'
              cases hinf'
              have hzl2 : zv.cells.size = inf.size := by
                have : zv.cells.toList.length = z.length := by simpa using hz1.1
                simp at this
                omega
              generalize hu0 : ((Array.range (n * inf.size)).map ((if n * inf.size = 0 then (#[] : Array Value) else zv.cells)[· % (if n * inf.size = 0 then (#[] : Array Value) else zv.cells).size]!)) = u0
              have hus : u0.size = n * inf.size := by rw [← hu0]; simp
              have huc : ∀ j, j < n * inf.size → u0[j]? = zv.cells[j % inf.size]? := by
                intro j hj
                have hne : ¬ n * inf.size = 0 := by omega
                rw [← hu0, if_neg hne]
                have hlt : j % zv.cells.size < zv.cells.size := Nat.mod_lt _ (by omega)
                rw [Array.getElem?_map, Array.getElem?_range, if_pos hj]
                simp only [Option.map_some, hzl2]
                rw [hzl2] at hlt
                rw [getElem!_pos zv.cells _ (by omega), Array.getElem?_eq_getElem (by omega)]
              obtain ⟨zr1, zr2⟩ := zeros_rel hz1 hz2 n inf.size hzl hpos u0 hus huc
              obtain ⟨cells, k1, k2, k3⟩ := fill_rel h (place' := fun i => some (i * inf.size, inf.size)) (fun i off size t' hp => by cases hp; rfl) hl hcs zr1 zr2
              have hrun : (Instr.buildSlice t n (ps.map fun x => (x.1, a.eval x.2))).run P w = .ok (.slice (some ⟨w.heap.size, 0, none⟩) n n) (w.alloc (.cells cells e)) := by
                have hb2 : ¬ n * inf.size > 2 ^ 24 := by omega
                have k1' : Instr.fill (fun i => some (i * inf.size, inf.size)) u0 (ps.map fun x => (x.1, a.eval x.2)).toList = some cells := by simpa using k1
                by_cases h0 : n * inf.size = 0
                · rw [if_pos h0] at hu0
                  rw [← hu0] at k1'
                  simp only [Instr.buildSlice, Sem.run_bind, run_underlying hu, Result.andThen_ok, sizeOf, typeInfo, run_program, hinf, Sem.run_pure, if_neg hb2, h0, if_true]
                  rw [h0] at k1'
                  rw [if_neg (by omega)]
                  simp only [Sem.run_bind, Sem.run_pure, Result.andThen_ok]
                  rw [k1']
                  simp [newRow]
                · rw [if_neg h0] at hu0
                  rw [← hu0] at k1'
                  simp only [Instr.buildSlice, Sem.run_bind, run_underlying hu, Result.andThen_ok, sizeOf, typeInfo, zeroValue, run_program, hinf, hzv, Sem.run_pure, if_neg hb2, if_neg h0]
                  rw [k1']
                  simp [newRow]
              obtain ⟨c1, c2, c3⟩ := chunk_spec hrows
              unfold Oper.wp
              have hrun2 : (execOp a.eval o).run P w = .ok (.value (.slice (some ⟨w.heap.size, 0, none⟩) n n)) (w.alloc (.cells cells e)) := by simp [execOp, ho, hrun]
              rw [hrun2, Oper.upon_value, hd]
              refine hk _ _ _ ((h.newrow cells e).put (hn d hd) (RelS.of1 ?_))
              have hcl : cells.size = n * inf.size := by
                have : cells.toList.length = cs.length := by simpa using k2.1
                simpa [c1] using this
              refine .lst .full inf.size rows _ n n w.heap.size 0 (fun i j => cells.getD (i * inf.size + j) undef) c2.symm (Nat.le_refl _) (fun _ => rfl) (fun i c hc => (c3 i c hc).2) (fun i j hi hj => ?_) (fun i j c x hc hx => ?_) rfl
              · have hlt : i * inf.size + j < cells.size := by
                  have : (i + 1) * inf.size ≤ n * inf.size := Nat.mul_le_mul_right _ hi
                  rw [Nat.add_mul] at this
                  omega
                simp only [if_true, Nat.zero_add]
                rw [Array.getElem?_eq_getElem hlt, Array.getD, dif_pos hlt]
                rfl
              · obtain ⟨d1, d2⟩ := c3 i c hc
                rw [d1, List.getElem?_map, List.getElem?_take] at hx
                split at hx
                · rw [List.getElem?_drop] at hx
                  cases hq : cs[i * inf.size + j]? with
                  | none => rw [hq] at hx; cases hx
                  | some c0 =>
                    rw [hq] at hx
                    cases hx
                    obtain ⟨v, hv1, hv2⟩ := k2.at_ (j := i * inf.size + j) (a := c0.unown) (by rw [List.getElem?_map, hq]; rfl)
                    have hv3 : cells.getD (i * inf.size + j) undef = v := by
                      have : cells[i * inf.size + j]? = some v := by simpa using hv1
                      simp [Array.getD_eq_getD_getElem?, this]
                    simp only [hv3]
                    have := (hv2.mono (h.newrow_le cells)).plain
                    rw [plain_unown] at this
                    exact this
                · cases hx
            · cases hs
          · cases hs
        · cases hi
      · cases hi
    · cases hi
  · cases hi
end
end Go.Proofs.YtpcddcfpbohogaaDoor
