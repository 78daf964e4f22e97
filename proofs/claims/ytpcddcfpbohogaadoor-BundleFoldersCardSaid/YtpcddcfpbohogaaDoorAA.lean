/-
  The abstract walk: append, the law.
-/
import Derived.Test.YtpcddcfpbohogaaDoorA9
namespace Go.Proofs.YtpcddcfpbohogaaDoor
set_option linter.unusedSimpArgs false
set_option linter.unusedVariables false
open Go.RowKit

section
variable {P : Program} {mu : List Nat} {E : Env} {G : Gho} {fr fr' : Fr} {st st' : St} {a : Act} {w : World} {o : Oper} {K : Act → World → Prop} {Q : Exit → Act → World → Prop} {p : Prop} {rs : Option RS} {i : AI} {gs : Bool}

theorem sim_app (h : Conc E G fr st a w) {c : Call} (ho : o.op = .call c) (hc : c.callee = .builtin .append) (hi : opAI P mu gs o = some i) (hs : astep P i rs fr st = some (fr', st', p)) (hp : p) (hn : ∀ d, o.dst = some d → d < E.n) (hk : Then E fr' st' K) : o.wp P a w K Q := by
  unfold opAI at hi
  rw [ho] at hi
  simp only [hc] at hi
  split at hi
  · rename_i d x y t u hd hargs' htys'
    have hargs : c.args = #[x, y] := Array.toList_inj.1 hargs'
    have htys : c.argTypes = #[t, u] := Array.toList_inj.1 htys'
    split at hi
    · rename_i x' y' e hx hy hu
      split at hi
      · rename_i inf hinf
        split at hi
        · rename_i z hz
          split at hi
          · rename_i hcond
            cases hi
            simp only [Bool.and_eq_true] at hcond
            obtain ⟨⟨⟨c1, c2⟩, c3⟩, c4⟩ := hcond
            have htu := Nat.eq_of_beq_eq_true c1
            subst htu
            have hzs := Nat.eq_of_beq_eq_true c2
            have hpos : 1 ≤ inf.size := Nat.le_of_ble_eq_true c3
            simp only [astep] at hs
            split at hs
            · rename_i tg esz' l t2 esz2 m hxv hyv
              cases hs
              obtain ⟨hown, he1, he2, hbytes, hlen⟩ := hp
              have hrunW : ∀ v w', (Builtin.append_ #[t, t] o.type #[a.eval x, a.eval y]).run P w = .ok v w' → (execOp a.eval o).run P w = .ok (.value v) w' := by
                intro v w' hv
                simp [execOp, ho, resolve, hc, hargs, htys, invoke, builtin, hv]
              obtain ⟨s0, hat, har, htg⟩ := app_slot d hown
              rw [hat, har] at hk
              have hX := h.ev hx hxv
              have hY := h.ev hy hyv
              obtain ⟨A, cap, b, q, f, hv, q2, q3, q4, q5, q6, q7, q8, q9⟩ := lst_open hX
              obtain ⟨A2, cap2, b2, qq, f2, hv2, p2, p3, p4, p5, p6, _⟩ := lst_open hY
              -- the elements' size
              have k4 : ∀ (i : Nat) (cc : List AV), l[i]? = some cc → cc.length = inf.size := by
                intro i cc hcc
                by_cases hnil : tg = .nil
                · have := (q8 hnil).2.1
                  rw [List.eq_nil_of_length_eq_zero this] at hcc
                  simp at hcc
                · have : esz' = inf.size := by cases tg <;> first | exact absurd rfl hnil | exact he1
                  rw [← this]; exact q4 i cc hcc
              have k5 : ∀ i j, i < l.length → j < inf.size → G.σ b (q + i * inf.size + j) = some (f i j) := by
                intro i j hil hj
                by_cases hnil : tg = .nil
                · have := (q8 hnil).2.1; omega
                · have : esz' = inf.size := by cases tg <;> first | exact absurd rfl hnil | exact he1
                  subst this; exact q5 i j hil hj
              have n4 : ∀ (i : Nat) (cc : List AV), m[i]? = some cc → cc.length = inf.size := by
                intro i cc hcc
                by_cases hnil : t2 = .nil
                · have := (lst_nil hY hnil)
                  rw [this] at hcc
                  simp at hcc
                · have : esz2 = inf.size := by cases t2 <;> first | exact absurd rfl hnil | exact he2
                  rw [← this]; exact p4 i cc hcc
              have n5 : ∀ i j, i < m.length → j < inf.size → G.σ b2 (qq + i * inf.size + j) = some (f2 i j) := by
                intro i j hil hj
                by_cases hnil : t2 = .nil
                · have := (lst_nil hY hnil); rw [this] at hil; simp at hil
                · have : esz2 = inf.size := by cases t2 <;> first | exact absurd rfl hnil | exact he2
                  subst this; exact p5 i j hil hj
              -- spare room: none, or a row of the call's own
              have hslack : cap = l.length ∨ ∃ g, A = some ⟨g, 0, none⟩ ∧ G.ρ s0 (st.row s0) = some ⟨g, l.length, inf.size, cap⟩ := by
                cases tg with
                | nil => have := q8 rfl; exact .inl (by omega)
                | full => exact .inl (q9 rfl)
                | any => exact hown.elim
                | own s v =>
                  obtain ⟨e1, e2⟩ := htg s v rfl
                  have he1' : esz' = inf.size := he1
                  subst e1 e2 he1'
                  rcases q7 with ⟨A', hv'⟩ | ⟨g, cap', hv', hρ⟩
                  · rw [hv] at hv'; injection hv' with _ _ e3; exact .inl e3
                  · rw [hv] at hv'; injection hv' with e3 _ e4; subst e4; exact .inr ⟨g, e3, hρ⟩
              have hnew : ∀ xx, G.ρ s0 (st.row s0 + 1) = some xx → False := fun xx hq => by have := h.rlt _ _ _ hq; omega
              have hbump := h.bump s0
              have hl47 : l.length + m.length ≤ 140737488355328 := hlen
              by_cases hm0 : m.length = 0
              · -- nothing is appended
                have hm : m = [] := List.eq_nil_of_length_eq_zero hm0
                subst hm
                have hrun := hrunW _ _ (by rw [hv, hv2]; exact run_append_zero w t o.type e hu hinf A A2 l.length cap cap2 q2)
                unfold Oper.wp
                rw [hrun, Oper.upon_value, hd]
                have hrel : Rel1 G.σ (.slice A l.length cap) (.lst .any inf.size (l ++ [])) := by
                  rw [List.append_nil]
                  exact .lst .any inf.size l A _ cap b q f rfl q2 q3 k4 k5 q6 trivial
                obtain ⟨G', hG'⟩ := Conc.appEnd (σ' := G.σ) (G := G) hbump (hn d hd) hnew hrel (by
                  rcases hslack with hsl | ⟨g, hA, hρ⟩
                  · exact .inl ⟨A, by rw [hsl]; simp⟩
                  · subst hA
                    obtain ⟨hra, hB⟩ := h.row s0 _ hρ
                    refine .inr ⟨g, cap, by simp, by simpa using hra, hB, fun s' r' hs' hg => ?_, fun k x hk e => (h.phi k x hk).2.2 _ _ hρ e.symm⟩
                    rw [upd_at] at hs'
                    split at hs'
                    · rename_i es; subst es; exact hnew _ hs'
                    · rename_i es; exact es (h.rinj s' s0 r' _ hs' hρ hg))
                exact hk _ _ _ hG'
              · have hmpos : 0 < m.length := by omega
                have hA2 := p3 hmpos
                subst hA2
                have hnl : (flatV m.length inf.size f2).length = m.length * inf.size := flatV_len _ _ _
                have hncell : ∀ (j : Nat) v, (flatV m.length inf.size f2)[j]? = some v → w.cell? ((⟨b2, qq, none⟩ : Addr).add j) = some v := fun j v hj => by
                  rw [Addr.add_lit]
                  exact h.hold _ _ _ (flatV_cells n5 j v hj)
                have hnone : ∀ v ∈ flatV m.length inf.size f2, v.oneCell' = true := by
                  intro v hvm
                  obtain ⟨j, hj⟩ := List.getElem?_of_mem hvm
                  have hjl : j < m.length * inf.size := by have := (List.getElem?_eq_some_iff.1 hj).1; rwa [hnl] at this
                  rw [flatV_at f2 hjl] at hj
                  cases hj
                  have h1 : j / inf.size < m.length := Nat.div_lt_of_lt_mul (by rw [Nat.mul_comm]; exact hjl)
                  have h2 : m[j / inf.size]? = some m[j / inf.size] := List.getElem?_eq_getElem h1
                  have h3 := n4 _ _ h2
                  have h4 : j % inf.size < m[j / inf.size].length := by rw [h3]; exact Nat.mod_lt _ (by omega)
                  exact (p6 _ _ _ _ h2 (List.getElem?_eq_getElem h4)).one
                by_cases hroom : l.length + m.length ≤ cap
                · -- room: a row of the call's own
                  rcases hslack with hsl | ⟨g, hA, hρ⟩
                  · omega
                  · subst hA
                    obtain ⟨⟨hge, e', cur, hg, hrn, hcs, hfree⟩, hB⟩ := h.row s0 _ hρ
                    simp only at hge hg hrn hcs hfree hB
                    have hfit : l.length * inf.size + (flatV m.length inf.size f2).length ≤ cur.size := by
                      rw [hnl, hcs, ← Nat.add_mul]; exact Nat.mul_le_mul_right _ hroom
                    have hrun := hrunW _ _ (by rw [hv, hv2]; exact run_append_room' w t o.type e e' inf hu hinf g l.length cap cur hg _ m.length cap2 _ hnl hncell hnone hroom hfit)
                    unfold Oper.wp
                    rw [hrun, Oper.upon_value, hd]
                    generalize hnews : flatV m.length inf.size f2 = news at *
                    have hcurl : cur.toList.length = cur.size := by simp
                    have hat2 : ∀ (j : Nat) v, news[j]? = some v → (cur.toList.take (l.length * inf.size) ++ news ++ cur.toList.drop (l.length * inf.size + news.length)).toArray[l.length * inf.size + j]? = some v := by
                      intro j v hj
                      have hjl := (List.getElem?_eq_some_iff.1 hj).1
                      rw [List.getElem?_toArray, List.append_assoc, List.getElem?_append_right (by rw [List.length_take]; omega), List.length_take, List.getElem?_append_left (by omega), show l.length * inf.size + j - min (l.length * inf.size) cur.toList.length = j by omega]
                      exact hj
                    have hat1 : ∀ (j : Nat), j < l.length * inf.size → (cur.toList.take (l.length * inf.size) ++ news ++ cur.toList.drop (l.length * inf.size + news.length)).toArray[j]? = cur[j]? := by
                      intro j hj
                      rw [List.getElem?_toArray, List.append_assoc, List.getElem?_append_left (by rw [List.length_take]; omega), List.getElem?_take, if_pos hj]
                      simp
                    have hle : G.σ.le fun bb j => if bb = g ∧ l.length * inf.size ≤ j then news[j - l.length * inf.size]? else G.σ bb j := fun bb j v hvv => by
                      have : ¬ (bb = g ∧ l.length * inf.size ≤ j) := fun e => by rw [e.1, hfree j e.2] at hvv; cases hvv
                      simp only [if_neg this]
                      exact hvv
                    have hne : ∀ s' r', G.ρ s' (upd st.row s0 (st.row s0 + 1) s') = some r' → r'.g ≠ g := fun s' r' hs' hg' => by
                      rw [upd_at] at hs'
                      split at hs'
                      · rename_i es; subst es; exact hnew _ hs'
                      · rename_i es; exact es (h.rinj s' s0 r' _ hs' hρ hg')
                    have hφ : ∀ k x, G.φ k = some x → x.g ≠ g := fun k x hk e => (h.phi k x hk).2.2 _ _ hρ e.symm
                    have hC := hbump.commit hge hg hB hne hφ (new := (cur.toList.take (l.length * inf.size) ++ news ++ cur.toList.drop (l.length * inf.size + news.length)).toArray) hle (fun bb j hbb => if_neg fun e => hbb e.1) (fun j v hvv => by
                      replace hvv : (if g = g ∧ l.length * inf.size ≤ j then news[j - l.length * inf.size]? else G.σ g j) = some v := hvv
                      by_cases hj : l.length * inf.size ≤ j
                      · rw [if_pos ⟨rfl, hj⟩] at hvv
                        have := hat2 _ _ hvv
                        rw [show l.length * inf.size + (j - l.length * inf.size) = j by omega] at this
                        exact this
                      · rw [if_neg (fun e => hj e.2)] at hvv
                        rw [hat1 j (by omega)]
                        have h1 := h.hold _ _ _ hvv
                        rw [cell_of_row w g j cur e' (0, 0) hg] at h1
                        exact h1)
                    have hrel : Rel1 (fun bb j => if bb = g ∧ l.length * inf.size ≤ j then news[j - l.length * inf.size]? else G.σ bb j) (.slice (some ⟨g, 0, none⟩) (l.length + m.length) cap) (.lst .any inf.size (l ++ m)) := by
                      refine rel_append (f := f) (f2 := f2) k4 n4 (fun i j cc xx h1 h2 => (q6 i j cc xx h1 h2).mono hle) (fun i j cc xx h1 h2 => (p6 i j cc xx h1 h2).mono hle) hroom (fun i j hi hj => ?_) (fun i j hi hj => ?_)
                      · have h1 := k5 i j hi hj
                        have h2 := q3 (by omega)
                        injection h2 with h2
                        injection h2 with h3 h4
                        subst h3 h4
                        rw [Nat.zero_add] at h1
                        exact hle _ _ _ h1
                      · have h1 : news[i * inf.size + j]? = some (f2 i j) := by rw [← hnews]; exact flatV_at2 f2 hi hj
                        have h2 : l.length * inf.size ≤ (l.length + i) * inf.size + j := by rw [Nat.add_mul]; omega
                        show (if g = g ∧ l.length * inf.size ≤ (l.length + i) * inf.size + j then news[(l.length + i) * inf.size + j - l.length * inf.size]? else G.σ g ((l.length + i) * inf.size + j)) = _
                        rw [if_pos ⟨rfl, h2⟩, show (l.length + i) * inf.size + j - l.length * inf.size = i * inf.size + j by rw [Nat.add_mul]; omega]
                        exact h1
                    refine Exists.elim (Conc.appEnd (G := G) hC (hn d hd) hnew hrel (.inr ⟨g, cap, by simp, ⟨hge, e', _, setRow_heap w g cur _ e' _ hg, by simpa using hroom, by
                        simp only [List.size_toArray, List.length_append, List.length_take, List.length_drop]
                        omega, fun j hj => ?_⟩, hB, hne, hφ⟩)) (fun G' hG' => hk _ _ _ hG')
                    · simp only [List.length_append] at hj ⊢
                      have h2 : l.length * inf.size ≤ j := by rw [Nat.add_mul] at hj; omega
                      simp only [true_and, if_pos h2]
                      apply List.getElem?_eq_none
                      rw [hnl]
                      rw [Nat.add_mul] at hj
                      omega
                · -- a new row
                  have hsl : cap < l.length + m.length := by omega
                  have fin : ∀ (cells : Array Value) (cap' : Nat), (Builtin.append_ #[t, t] o.type #[a.eval x, a.eval y]).run P w = .ok (.slice (some ⟨w.heap.size, 0, none⟩) (l.length + m.length) cap') (w.drew.alloc (.cells cells e)) → l.length + m.length ≤ cap' →
                      (∀ (q : Nat) v, (flatV l.length inf.size f ++ flatV m.length inf.size f2)[q]? = some v → cells[q]? = some v) → cells.size = cap' * inf.size → o.wp P a w K Q := by
                    intro cells cap' hrun hcap' hcells hcsz
                    have hrun := hrunW _ _ hrun
                    unfold Oper.wp
                    rw [hrun, Oper.upon_value, hd]
                    obtain ⟨σ', hle, hC, hσ1, hσ2⟩ := grown_conc hbump (e := e) (esz := inf.size) (n := 0) (flatV l.length inf.size f ++ flatV m.length inf.size f2) hcells
                    have hll : (flatV l.length inf.size f).length = l.length * inf.size := flatV_len _ _ _
                    have hrel : Rel1 σ' (.slice (some ⟨w.heap.size, 0, none⟩) (l.length + m.length) cap') (.lst .any inf.size (l ++ m)) := by
                      refine rel_append (f := f) (f2 := f2) k4 n4 (fun i j cc xx h1 h2 => (q6 i j cc xx h1 h2).mono hle) (fun i j cc xx h1 h2 => (p6 i j cc xx h1 h2).mono hle) hcap' (fun i j hi hj => hσ1 _ _ ?_) (fun i j hi hj => hσ1 _ _ ?_)
                      · have h1 := flatV_at2 f hi hj
                        rw [List.getElem?_append_left (List.getElem?_eq_some_iff.1 h1).1]
                        exact h1
                      · rw [List.getElem?_append_right (by rw [hll, Nat.add_mul]; omega), hll, show (l.length + i) * inf.size + j - l.length * inf.size = i * inf.size + j by rw [Nat.add_mul]; omega]
                        exact flatV_at2 f2 hi hj
                    have hBlt : ∀ id g, G.B id = some g → g < w.heap.size := fun id g hgB => by
                      cases hbx : st.box id with
                      | none => rw [h.bnone id hbx] at hgB; cases hgB
                      | some xx =>
                        obtain ⟨cs', fz⟩ := xx
                        obtain ⟨g', hg', _, t', vs', hh, _⟩ := h.box id cs' fz hbx
                        rw [hgB] at hg'
                        cases hg'
                        exact lt_of_heap hh
                    refine Exists.elim (Conc.appEnd (G := G) hC (hn d hd) hnew hrel (.inr ⟨w.heap.size, cap', by simp, ⟨h.lt, e, cells, by rw [show w.heap.size = w.drew.heap.size from rfl]; exact heap_alloc_new _ _, by simpa using hcap', hcsz, fun j hj => ?_⟩, fun id hid => ?_, fun s' r' hs' hg' => ?_, fun k x hk e => by have := ((h.phi k x hk).1.2).lt; omega⟩)) (fun G' hG' => hk _ _ _ hG')
                    · refine hσ2 j ?_
                      simp only [List.length_append] at hj ⊢
                      rw [hll, hnl, ← Nat.add_mul]
                      exact hj
                    · have := hBlt _ _ hid; omega
                    · rw [upd_at] at hs'
                      split at hs'
                      · rename_i es; subst es; exact hnew _ hs'
                      · obtain ⟨⟨_, e2, cur2, k3, _⟩, _⟩ := h.row s' r' hs'
                        have := lt_of_heap k3
                        omega
                  have hll : (flatV l.length inf.size f).length = l.length * inf.size := flatV_len _ _ _
                  cases A with
                  | none =>
                    have hl0 : l.length = 0 := by
                      rcases Nat.eq_zero_or_pos l.length with h0 | h0
                      · exact h0
                      · cases q3 h0
                    have hcap0 : cap = 0 := by
                      rcases hslack with hsl | ⟨g, hA, _⟩
                      · omega
                      · cases hA
                    subst hcap0
                    have hge := grownCap_ge w m.length 0 e
                    refine fin _ (grownCap w m.length 0 e) (by
                      rw [hv, hv2, hl0, Nat.zero_add]
                      exact run_append_nil w t o.type e inf z hu hinf hz _ m.length cap2 _ hnl hncell hmpos (by omega) (by rw [hl0, Nat.zero_add] at hbytes; omega)) (by omega) (fun q v hq => ?_) ?_
                    · rw [List.eq_nil_of_length_eq_zero (show (flatV l.length inf.size f).length = 0 by rw [hll, hl0, Nat.zero_mul]), List.nil_append] at hq
                      rw [Array.getElem?_append_left (by simpa using (List.getElem?_eq_some_iff.1 hq).1)]
                      simpa using hq
                    · simp only [Array.size_append, List.size_toArray, size_zeroCells, hnl, hzs, ← Nat.add_mul]
                      congr 1
                      omega
                  | some ad =>
                    have holds : ∀ (j : Nat) v, (flatV l.length inf.size f)[j]? = some v → w.cell? (ad.add j) = some v := fun j v hj => by
                      have hjl : j < l.length * inf.size := by have := (List.getElem?_eq_some_iff.1 hj).1; rwa [hll] at this
                      have hl0 : 0 < l.length := by
                        rcases Nat.eq_zero_or_pos l.length with h0 | h0
                        · rw [h0] at hjl; omega
                        · exact h0
                      have := q3 hl0
                      cases this
                      rw [Addr.add_lit]
                      exact h.hold _ _ _ (flatV_cells k5 j v hj)
                    have hge := grownCap_ge w (l.length + m.length) cap e
                    refine fin _ (grownCap w (l.length + m.length) cap e) (by
                      rw [hv, hv2]
                      exact run_append_grow w t o.type e inf z hu hinf hz ad l.length cap _ hll holds _ m.length cap2 _ hnl hncell hsl (by omega) (growslice_fits hsl hbytes)) hge (fun q v hq => ?_) ?_
                    · rw [Array.getElem?_append_left (by simpa using (List.getElem?_eq_some_iff.1 hq).1)]
                      simpa using hq
                    · simp only [Array.size_append, List.size_toArray, size_zeroCells, hnl, hll, hzs, ← Nat.add_mul]
                      congr 1
                      omega
            · cases hs
          · cases hi
        · cases hi
      · cases hi
    · cases hi
  · cases hi
/-- a call whose result may be appended to -/
theorem sim_callo (h : Conc E G fr st a w) {c : Call} {f : Operand} (ho : o.op = .call c) (hc : c.callee = .value f) (hi : opAI P mu gs o = some i) (hs : astep P i rs fr st = some (fr', st', p)) (hp : p) (hn : ∀ d, o.dst = some d → d < E.n) (hco : ∃ d f args, i = .callo d f args) (hk : Then E fr' st' K) : o.wp P a w K Q := by
  obtain ⟨d0, f0, args0, hie⟩ := hco
  unfold opAI at hi
  rw [ho] at hi
  simp only [hc] at hi
  split at hi
  · rename_i f' args hf hargs
    split at hi
    · cases hi; cases hie
    · split at hi
      · cases hi
        cases hie
        simp only [astep] at hs
        split at hs
        · rename_i fid cap as r hfv hav
          split at hs
          · rename_i bs hbs
            cases hs
            obtain ⟨us, hfe, hus⟩ := fn_open (h.ev hf hfv).1
            exact call_ac h ho hc hfe hus (evs_rel h hargs hav hbs) hp hn hk
          · cases hs
        · rename_i fid cap as esz rows hfv hav
          split at hs
          · rename_i bs d hbs hd
            cases hs
            obtain ⟨us, hfe, hus⟩ := fn_open (h.ev hf hfv).1
            have hrel := evs_rel h hargs hav hbs
            unfold Oper.wp
            rw [enter_run ho hc hp.cb hfe, Oper.upon_enter]
            refine (hp.run G.σ w _ h.hold (hrel.append hus) (E.gw.below h.below)).mono fun e w' ⟨σ1, g, cp, he, hx, hh, hb, hge, e', cur, hg, hsz, hcap, hlen, hr, hone, hfree⟩ => ?_
            subst he
            -- the row's cells stay from now on
            have hcl : cur.toList.length = cp * esz := by simpa using hsz
            have hfl : rows.flatten.length = rows.length * esz := by
              have : ∀ l : List (List AV), (∀ c ∈ l, c.length = esz) → l.flatten.length = l.length * esz := by
                intro l
                induction l with
                | nil => intro _; simp
                | cons x l ih => intro hx; rw [List.flatten_cons, List.length_append, List.length_cons, ih fun c hc => hx c (by simp [hc]), hx x (by simp), Nat.add_mul]; omega
              exact this rows hlen
            have hle1 : σ1.le fun b q => if b = g ∧ q < rows.length * esz then cur[q]? else σ1 b q := fun b q v hv => by
              have : ¬ (b = g ∧ q < rows.length * esz) := fun e => by rw [e.1, hfree] at hv; cases hv
              simp only [if_neg this]
              exact hv
            have hx2 : Ext G.σ (fun b q => if b = g ∧ q < rows.length * esz then cur[q]? else σ1 b q) w.heap.size := ⟨hx.1.trans hle1, fun b q hb => by
              simp only
              rw [if_neg (fun e => by omega)]
              exact hx.2 b q hb⟩
            have hh2 : Holds (fun b q => if b = g ∧ q < rows.length * esz then cur[q]? else σ1 b q) w' := fun b q v hv => by
              simp only at hv
              split at hv
              · rename_i e
                rw [e.1, cell_of_row w' g q cur e' (0, 0) hg]
                exact hv
              · exact hh b q v hv
            have h2 := (h.world hb hx2 hh2).bump d
            have hle : rows.length * esz ≤ cp * esz := Nat.mul_le_mul_right _ hcap
            have hrel2 : Rel1 (fun b q => if b = g ∧ q < rows.length * esz then cur[q]? else σ1 b q) (.slice (some ⟨g, 0, none⟩) rows.length cp) (.lst .any esz rows) := by
              refine .lst .any esz rows _ _ cp g 0 (fun i j => cur.getD (i * esz + j) undef) rfl hcap (fun _ => rfl) (fun i c hc => hlen c (List.mem_of_getElem? hc)) (fun i j hi hj => ?_) (fun i j c x hc hx => ?_) trivial
              · have h1 : (i + 1) * esz ≤ rows.length * esz := Nat.mul_le_mul_right _ (by omega)
                rw [Nat.add_mul] at h1
                have hlt : i * esz + j < cur.size := by omega
                rw [Nat.zero_add]
                simp only
                rw [if_pos ⟨trivial, by omega⟩, Array.getElem?_eq_getElem hlt, Array.getD, dif_pos hlt]
                rfl
              · have hat : ∀ (l : List (List AV)) (i : Nat), (∀ c ∈ l, c.length = esz) → l[i]? = some c → l.flatten[i * esz + j]? = some x := by
                  intro l
                  induction l with
                  | nil => intro i _ h; simp at h
                  | cons y l ih =>
                    intro i hl hc
                    have hy := hl y (by simp)
                    rw [List.flatten_cons]
                    cases i with
                    | zero =>
                      simp at hc
                      subst hc
                      rw [Nat.zero_mul, Nat.zero_add, List.getElem?_append_left (List.getElem?_eq_some_iff.1 hx).1]
                      exact hx
                    | succ i =>
                      rw [List.getElem?_append_right (by rw [hy, Nat.add_mul]; omega), hy, show (i + 1) * esz + j - esz = i * esz + j by rw [Nat.add_mul]; omega]
                      exact ih i (fun c hc => hl c (by simp [hc])) (by simpa using hc)
                obtain ⟨v, hv1, hv2⟩ := (hr.mono hle1).at_ (hat rows i hlen hc)
                rw [List.getElem?_take] at hv1
                split at hv1
                · have : cur[i * esz + j]? = some v := by simpa using hv1
                  simp only [Array.getD_eq_getD_getElem?, this]
                  exact hv2
                · cases hv1
            refine Exists.elim (Conc.appEnd (s0 := d) (G := G) h2 (hn d hd) (fun xx hq => by have := h.rlt _ _ _ hq; omega) hrel2 (.inr ⟨g, cp, rfl, ⟨Nat.le_trans h.lt hge, e', cur, hg, hcap, hsz, fun j hj => ?_⟩, fun id hid => by have := h.Blt id g hid; omega, fun s' r' hs' e => ?_, fun k x hk e => by have := ((h.phi k x hk).1.2).lt; omega⟩)) (fun G' hG' => ?_)
            · simp only at hj ⊢
              rw [if_neg (fun e => by omega)]
              exact hfree j
            · rw [upd_at] at hs'
              split at hs'
              · rename_i es; subst es; have := h.rlt _ _ _ hs'; omega
              · have := h.ρlt s' r' hs'; omega
            · rw [hd]
              exact hk _ _ _ hG'
          · cases hs
        · cases hs
      · cases hi; cases hie
  · cases hi
end
end Go.Proofs.YtpcddcfpbohogaaDoor
