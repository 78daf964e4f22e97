/-
  The abstract walk: append.
-/
import Derived.Test.YtpcddcfpbohogaaDoorA8
namespace Go.Proofs.YtpcddcfpbohogaaDoor
set_option linter.unusedSimpArgs false
set_option linter.unusedVariables false
open Go.RowKit

section
variable {P : Program} {mu : List Nat} {E : Env} {G : Gho} {fr fr' : Fr} {st st' : St} {a : Act} {w : World} {o : Oper} {K : Act → World → Prop} {Q : Exit → Act → World → Prop} {p : Prop} {rs : Option RS} {i : AI} {gs : Bool}

/-- the cells of n elements, one behind the other -/
def flatV (n esz : Nat) (f : Nat → Nat → Value) : List Value := (List.range (n * esz)).map fun q => f (q / esz) (q % esz)
theorem flatV_len (n esz : Nat) (f : Nat → Nat → Value) : (flatV n esz f).length = n * esz := by simp [flatV]
theorem flatV_at {n esz : Nat} (f : Nat → Nat → Value) {q : Nat} (h : q < n * esz) : (flatV n esz f)[q]? = some (f (q / esz) (q % esz)) := by
  simp [flatV, h]
theorem flatV_at2 {n esz : Nat} (f : Nat → Nat → Value) {i j : Nat} (hi : i < n) (hj : j < esz) : (flatV n esz f)[i * esz + j]? = some (f i j) := by
  have h1 : i * esz + j < n * esz := by
    have : (i + 1) * esz ≤ n * esz := Nat.mul_le_mul_right _ hi
    rw [Nat.add_mul] at this
    omega
  rw [flatV_at f h1]
  have h2 : (i * esz + j) / esz = i := by
    rw [Nat.mul_comm, Nat.mul_add_div (by omega), Nat.div_eq_of_lt hj, Nat.add_zero]
  have h3 : (i * esz + j) % esz = j := by
    rw [Nat.mul_comm, Nat.mul_add_mod, Nat.mod_eq_of_lt hj]
  rw [h2, h3]
theorem flatV_cells {σ : Sg} {n esz b q0 : Nat} {f : Nat → Nat → Value} (hσ : ∀ i j, i < n → j < esz → σ b (q0 + i * esz + j) = some (f i j)) : ∀ (q : Nat) v, (flatV n esz f)[q]? = some v → σ b (q0 + q) = some v := by
  intro q v hv
  have hq : q < n * esz := by have := (List.getElem?_eq_some_iff.1 hv).1; rwa [flatV_len] at this
  have he : 0 < esz := by
    rcases Nat.eq_zero_or_pos esz with h | h
    · subst h; omega
    · exact h
  rw [flatV_at f hq] at hv
  cases hv
  have h1 : q / esz < n := Nat.div_lt_of_lt_mul (by rw [Nat.mul_comm]; exact hq)
  have h2 := hσ (q / esz) (q % esz) h1 (Nat.mod_lt _ he)
  rw [← h2]
  congr 1
  have := Nat.div_add_mod q esz
  rw [Nat.mul_comm] at this
  omega

theorem Conc.bump (h : Conc E G fr st a w) (s : Nat) : Conc E G fr { st with row := upd st.row s (st.row s + 1) } a w :=
  { h with
    row := fun s' r hs => by
      simp only at hs
      rw [upd_at] at hs
      split at hs
      · rename_i e; subst e; have := h.rlt _ _ _ hs; omega
      · exact h.row s' r hs
    rinj := fun s1 s2 r1 r2 h1 h2 hg => by
      simp only at h1 h2
      rw [upd_at] at h1 h2
      split at h1
      · rename_i e; subst e; have := h.rlt _ _ _ h1; omega
      · split at h2
        · rename_i e; subst e; have := h.rlt _ _ _ h2; omega
        · exact h.rinj s1 s2 r1 r2 h1 h2 hg
    rlt := fun s' v x hs => by
      have := h.rlt s' v x hs
      simp only
      rw [upd_at]
      split
      · rename_i e; subst e; omega
      · exact this
    phi := fun k x hk => by
      obtain ⟨h1, h2, h3⟩ := h.phi k x hk
      refine ⟨h1, h2, fun s' r hs => ?_⟩
      simp only at hs
      rw [upd_at] at hs
      split at hs
      · rename_i e; subst e; have := h.rlt _ _ _ hs; omega
      · exact h3 s' r hs }
def ρset (ρ : Nat → Nat → Option RowI) (s v : Nat) (r : RowI) : Nat → Nat → Option RowI := fun s' v' => if s' = s ∧ v' = v then some r else ρ s' v'
theorem Conc.claim (h : Conc E G fr st a w) {s : Nat} (hnone : G.ρ s (st.row s) = none) {r : RowI} (hr : RowAt E G w r) (hB : ∀ id, G.B id ≠ some r.g) (hne : ∀ s' r', G.ρ s' (st.row s') = some r' → r'.g ≠ r.g) (hφ : ∀ k x, G.φ k = some x → x.g ≠ r.g) :
    Conc E { G with ρ := ρset G.ρ s (st.row s) r } fr st a w :=
  have hle : G.le { G with ρ := ρset G.ρ s (st.row s) r } := ⟨Sg.le.refl _, fun s' v x hx => by
    simp only [ρset]
    rw [if_neg (fun e => by rw [e.1, e.2, hnone] at hx; cases hx)]
    exact hx, fun _ _ h => h, fun _ _ _ h => h⟩
  { defers := h.defers
    size := h.size
    slots := fun s' x hs => (h.slots s' x hs).mono hle fun _ _ _ _ hg => hg
    hold := h.hold
    ext := h.ext
    below := h.below
    box := fun id cs fz hs => by
      obtain ⟨g, h1, h2, t, vs, h3, h4, h5, h6⟩ := h.box id cs fz hs
      exact ⟨g, h1, h2, t, vs, h3, h4, h5.mono hle, h6⟩
    bnone := h.bnone
    binj := h.binj
    row := fun s' r' hs => by
      simp only [ρset] at hs
      split at hs
      · cases hs; exact ⟨hr, hB⟩
      · exact h.row s' r' hs
    rinj := fun s1 s2 r1 r2 h1 h2 hg => by
      simp only [ρset] at h1 h2
      split at h1
      · rename_i e1
        split at h2
        · rename_i e2; rw [e1.1, e2.1]
        · cases h1; exact absurd hg.symm (hne _ _ h2)
      · split at h2
        · cases h2; exact absurd hg (hne _ _ h1)
        · exact h.rinj s1 s2 r1 r2 h1 h2 hg
    rlt := fun s' v x hs => by
      simp only [ρset] at hs
      split at hs
      · rename_i e; rw [e.1, e.2]; exact Nat.le_refl _
      · exact h.rlt s' v x hs
    phi := fun k x hk => by
      obtain ⟨h1, h2, h3⟩ := h.phi k x hk
      refine ⟨h1, h2, fun s' r' hs => ?_⟩
      simp only [ρset] at hs
      split at hs
      · cases hs; exact fun e => hφ k x hk e.symm
      · exact h3 s' r' hs
    phinj := h.phinj
    pnone := h.pnone
    small := h.small }
/-- cells of a block of the call's own, that no variable and no row of today holds, are written and stay -/
theorem Conc.commit (h : Conc E G fr st a w) {g : Nat} {cur new : Array Value} {e : TypeId} (hge : E.w0.heap.size ≤ g) (hg : w.heap[g]? = some (.cells cur e (0, 0))) (hB : ∀ id, G.B id ≠ some g) (hne : ∀ s' r', G.ρ s' (st.row s') = some r' → r'.g ≠ g) (hφ : ∀ k x, G.φ k = some x → x.g ≠ g)
    {σ' : Sg} (hle : G.σ.le σ') (hother : ∀ b q, b ≠ g → σ' b q = G.σ b q) (hnew : ∀ q v, σ' g q = some v → new[q]? = some v) :
    Conc E { G with σ := σ' } fr st a (w.setRow g new) :=
  have hG : G.le { G with σ := σ' } := ⟨hle, fun _ _ _ h => h, fun _ _ h => h, fun _ _ _ h => h⟩
  { defers := h.defers
    size := h.size
    slots := fun s x hs => (h.slots s x hs).mono hG fun _ _ _ _ hg => hg
    hold := fun b q v hv => by
      by_cases hb : b = g
      · subst hb
        rw [cell_setRow_same w b q cur new e (0, 0) hg]
        exact hnew q v hv
      · rw [cell_setRow_other w g new ⟨b, q, none⟩ hb]
        exact h.hold b q v (by rw [← hother b q hb]; exact hv)
    ext := ⟨h.ext.1.trans hle, fun b q hb => by rw [show ({ G with σ := σ' } : Gho).σ b q = σ' b q from rfl, hother b q (by omega)]; exact h.ext.2 b q hb⟩
    below := below_setRow h.below hge _
    box := fun id cs fz hs => by
      obtain ⟨g2, k1, k2, t2, vs2, k3, k4, k5, k6⟩ := h.box id cs fz hs
      have hne2 : g2 ≠ g := fun e' => hB id (e' ▸ k1)
      refine ⟨g2, k1, k2, t2, vs2, by rw [setRow_other w g g2 _ hne2]; exact k3, k4.mono hle, k5.mono hG, ?_⟩
      cases fz with
      | true => exact fun j v hv => hle _ _ _ (k6 j v hv)
      | false => exact fun j => by rw [show ({ G with σ := σ' } : Gho).σ g2 j = σ' g2 j from rfl, hother g2 j hne2]; exact k6 j
    bnone := h.bnone
    binj := h.binj
    row := fun s r hs => by
      obtain ⟨⟨k1, e2, cur2, k3, k4, k5, k8⟩, k9⟩ := h.row s r hs
      have hne2 := hne s r hs
      exact ⟨⟨k1, e2, cur2, by rw [setRow_other w g r.g _ hne2]; exact k3, k4, k5, fun j hj => by rw [show ({ G with σ := σ' } : Gho).σ r.g j = σ' r.g j from rfl, hother r.g j hne2]; exact k8 j hj⟩, k9⟩
    rinj := h.rinj
    rlt := h.rlt
    phi := fun k x hk => by
      obtain ⟨⟨h1, h2⟩, h3, h4⟩ := h.phi k x hk
      have hne2 := hφ k x hk
      exact ⟨⟨h1, h2.on hle (setRow_other w g x.g _ hne2) fun j => by rw [show ({ G with σ := σ' } : Gho).σ x.g j = σ' x.g j from rfl, hother x.g j hne2]; exact h2.free j⟩, h3, h4⟩
    phinj := h.phinj
    pnone := h.pnone
    small := h.small }
theorem run_append_zero (w : World) (t ty e : TypeId) {inf : TypeInfo} (ht : P.underlying t = some (.slice e)) (hi : P.info? e = some inf) (A A2 : Option Addr) (n cap c2 : Nat) (hle : n ≤ cap) :
    (Builtin.append_ #[t, t] ty #[.slice A n cap, .slice A2 0 c2]).run P w = .ok (.slice A n cap) w := by
  cases A <;> cases A2 <;> simp [Builtin.append_, run_underlying ht, sizeOf, typeInfo, hi, Builtin.lenOf, Builtin.firstCells, hle, storeCells, loadCells, loadCellsFrom]
/-- the two lists, one behind the other, in a block of the call's own -/
theorem rel_append {σ : Sg} {esz : Nat} {l m : List (List AV)} {f f2 : Nat → Nat → Value} (h1 : ∀ (i : Nat) (c : List AV), l[i]? = some c → c.length = esz) (h2 : ∀ (i : Nat) (c : List AV), m[i]? = some c → c.length = esz)
    (r1 : ∀ (i j : Nat) (c : List AV) (x : AV), l[i]? = some c → c[j]? = some x → Rel1 σ (f i j) x) (r2 : ∀ (i j : Nat) (c : List AV) (x : AV), m[i]? = some c → c[j]? = some x → Rel1 σ (f2 i j) x)
    {g cap : Nat} (hcap : l.length + m.length ≤ cap) (s1 : ∀ i j, i < l.length → j < esz → σ g (i * esz + j) = some (f i j)) (s2 : ∀ i j, i < m.length → j < esz → σ g ((l.length + i) * esz + j) = some (f2 i j)) :
    Rel1 σ (.slice (some ⟨g, 0, none⟩) (l.length + m.length) cap) (.lst .any esz (l ++ m)) := by
  refine .lst .any esz (l ++ m) _ _ cap g 0 (fun i j => if i < l.length then f i j else f2 (i - l.length) j) (by simp) hcap (fun _ => rfl) (fun i c hc => ?_) (fun i j hi hj => ?_) (fun i j c x hc hx => ?_) trivial
  · by_cases hi : i < l.length
    · rw [List.getElem?_append_left hi] at hc; exact h1 i c hc
    · rw [List.getElem?_append_right (by omega)] at hc; exact h2 _ c hc
  · rw [Nat.zero_add]
    by_cases hil : i < l.length
    · rw [if_pos hil]; exact s1 i j hil hj
    · rw [if_neg hil]
      have := s2 (i - l.length) j (by omega) hj
      rw [show l.length + (i - l.length) = i by omega] at this
      exact this
  · by_cases hil : i < l.length
    · simp only [if_pos hil]; rw [List.getElem?_append_left hil] at hc; exact r1 i j c x hc hx
    · simp only [if_neg hil]; rw [List.getElem?_append_right (by omega)] at hc; exact r2 _ j c x hc hx

theorem app_slot {t : Tag} (d : Nat) (h : OwnTag st t) : ∃ s0, appTag st d t = .own s0 (st.row s0 + 1) ∧ appRow st d t = upd st.row s0 (st.row s0 + 1) ∧ ∀ s v, t = .own s v → s = s0 ∧ v = st.row s0 := by
  cases t with
  | own s v =>
    have h' : st.row s = v := h
    subst h'
    exact ⟨s, rfl, rfl, fun s' v' e => by cases e; exact ⟨rfl, rfl⟩⟩
  | nil => exact ⟨d, rfl, rfl, fun s' v' e => by cases e⟩
  | full => exact ⟨d, rfl, rfl, fun s' v' e => by cases e⟩
  | any => exact h.elim
theorem ρset_le {ρ : Nat → Nat → Option RowI} {s v : Nat} (r : RowI) (hn : ρ s v = none) : ∀ s' v' x, ρ s' v' = some x → ρset ρ s v r s' v' = some x := fun s' v' x hx => by
  simp only [ρset]
  rw [if_neg (fun e => by rw [e.1, e.2, hn] at hx; cases hx)]
  exact hx
/-- the end of every way: a row is the call's own, and its newest version -/
theorem Conc.appEnd {σ' : Sg} {w' : World} {s0 d : Nat} (h : Conc E { G with σ := σ' } fr { st with row := upd st.row s0 (st.row s0 + 1) } a w') (hd : d < E.n) (hold : ∀ x, G.ρ s0 (st.row s0 + 1) = some x → False) {v : Value} {esz : Nat} {l : List (List AV)} (hr : Rel1 σ' v (.lst .any esz l))
    (ht : (∃ A, v = .slice A l.length l.length) ∨ ∃ g cap, v = .slice (some ⟨g, 0, none⟩) l.length cap ∧ RowAt E { G with σ := σ' } w' ⟨g, l.length, esz, cap⟩ ∧ (∀ id, G.B id ≠ some g) ∧ (∀ s' r', G.ρ s' (upd st.row s0 (st.row s0 + 1) s') = some r' → r'.g ≠ g) ∧ ∀ k x, G.φ k = some x → x.g ≠ g) :
    ∃ G', Conc E G' (put1 fr d (.lst (.own s0 (st.row s0 + 1)) esz l)) { st with row := upd st.row s0 (st.row s0 + 1) } (a.put (some d) v) w' := by
  rcases ht with ⟨A, hv⟩ | ⟨g, cap, hv, hra, hB, hne, hφ⟩
  · exact ⟨_, h.put hd ⟨hr, .inl ⟨A, hv⟩⟩⟩
  · have hnone : G.ρ s0 (upd st.row s0 (st.row s0 + 1) s0) = none := by
      rw [upd_same]
      cases hq : G.ρ s0 (st.row s0 + 1) with
      | none => rfl
      | some x => exact (hold x hq).elim
    have h2 := h.claim (s := s0) hnone (r := ⟨g, l.length, esz, cap⟩) hra hB hne hφ
    refine ⟨_, h2.put hd ⟨hr, .inr ⟨g, cap, hv, ?_⟩⟩⟩
    simp only [ρset, upd_same]
    simp
theorem grown_conc (h : Conc E G fr st a w) {e : TypeId} {esz n : Nat} {cells : Array Value} (news : List Value) (hnews : ∀ (q : Nat) v, news[q]? = some v → cells[q]? = some v) :
    ∃ σ' : Sg, G.σ.le σ' ∧ Conc E { G with σ := σ' } fr st a (w.drew.alloc (.cells cells e)) ∧ (∀ (q : Nat) v, news[q]? = some v → σ' w.heap.size q = some v) ∧ (∀ q, news.length ≤ q → σ' w.heap.size q = none) := by
  have hbl : Below w.heap.size w (w.drew.alloc (.cells cells e)) := ((Below.refl _ _).drew).alloc (Nat.le_refl _) _
  have hle : G.σ.le fun b q => if b = w.heap.size then news[q]? else G.σ b q := fun b q v hv => by
    have : b ≠ w.heap.size := fun e => by rw [e, h.fresh] at hv; cases hv
    simp only [if_neg this]
    exact hv
  refine ⟨_, hle, h.world hbl ⟨hle, fun b q hb => if_neg (by omega)⟩ fun b q v hv => ?_, fun q v hv => by simp [hv], fun q hq => by simp [hq]⟩
  split at hv
  · rename_i e'
    subst e'
    have h1 := World.cell?_alloc_at (w := w.drew) cells e w.heap.size q rfl
    exact h1.trans (hnews q v hv)
  · have h1 := h.hold b q v hv
    exact (hbl.cell (p := ⟨b, q, none⟩) (World.block_lt_of_cell? w _ h1)).trans h1
theorem Rel1.slice_any {σ : Sg} {v : Value} {t : Tag} {esz : Nat} {l : List (List AV)} (h : Rel1 σ v (.lst t esz l)) : Rel1 σ v (.lst .any esz l) := h.plain

theorem run_append_room' (w : World) (t ty e e' : TypeId) (inf : TypeInfo) (ht : P.underlying t = some (.slice e)) (hi : P.info? e = some inf) (g sLen sCap : Nat) (cur : Array Value) (hg : w.heap[g]? = some (.cells cur e' (0, 0)))
    (a : Addr) (m c : Nat) (news : List Value) (hl : news.length = m * inf.size) (hnews : ∀ (j : Nat) u, news[j]? = some u → w.cell? (a.add j) = some u) (h1 : ∀ u ∈ news, u.oneCell' = true) (hroom : sLen + m ≤ sCap) (hfit : sLen * inf.size + news.length ≤ cur.size) :
    (Builtin.append_ #[t, t] ty #[.slice (some ⟨g, 0, none⟩) sLen sCap, .slice (some a) m c]).run P w =
      .ok (.slice (some ⟨g, 0, none⟩) (sLen + m) sCap) (w.setRow g (cur.toList.take (sLen * inf.size) ++ news ++ cur.toList.drop (sLen * inf.size + news.length)).toArray) := by
  have hf := run_firstCells_some (P := P) w inf.size m a m c news hl hnews
  have hst := run_storeCells_at P g (sLen * inf.size) e' news 0 cur w hg (by simpa using hfit) h1
  simp only [Nat.add_zero] at hst
  simp [Builtin.append_, run_underlying ht, sizeOf, typeInfo, hi, Builtin.lenOf, hroom, hf, Addr.add_lit, hst]
end
end Go.Proofs.YtpcddcfpbohogaaDoor
