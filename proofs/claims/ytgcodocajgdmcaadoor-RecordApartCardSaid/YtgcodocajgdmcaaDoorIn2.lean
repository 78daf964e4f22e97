/-
  slices.Insert at pairs: its contracts.
-/
import Derived.Test.YtgcodocajgdmcaaDoorIn1
namespace Go.Proofs.YtgcodocajgdmcaaDoor
set_option linter.unusedSimpArgs false
set_option linter.unusedVariables false
open Go.RowKit

theorem flatten_take {esz : Nat} : ∀ {rows : List (List AV)} (i : Nat), (∀ c ∈ rows, c.length = esz) → (rows.take i).flatten = rows.flatten.take (i * esz)
  | [], i, _ => by simp
  | c :: rows, 0, _ => by simp
  | c :: rows, i + 1, h => by
    have hc := h c (by simp)
    rw [List.take_succ_cons, List.flatten_cons, List.flatten_cons, flatten_take i fun c hc => h c (by simp [hc]), List.take_append, hc, List.take_of_length_le (l := c) (by rw [hc, Nat.add_mul]; omega), show (i + 1) * esz - esz = i * esz by rw [Nat.add_mul]; omega]
theorem flatten_drop {esz : Nat} : ∀ {rows : List (List AV)} (i : Nat), (∀ c ∈ rows, c.length = esz) → (rows.drop i).flatten = rows.flatten.drop (i * esz)
  | [], i, _ => by simp
  | c :: rows, 0, _ => by simp
  | c :: rows, i + 1, h => by
    have hc := h c (by simp)
    rw [List.drop_succ_cons, List.flatten_cons, flatten_drop i fun c hc => h c (by simp [hc]), List.drop_append, hc, List.drop_of_length_le (l := c) (by rw [hc, Nat.add_mul]; omega), show (i + 1) * esz - esz = i * esz by rw [Nat.add_mul]; omega, List.nil_append]
theorem flatten_len {esz : Nat} : ∀ {rows : List (List AV)}, (∀ c ∈ rows, c.length = esz) → rows.flatten.length = rows.length * esz
  | [], _ => by simp
  | c :: rows, h => by rw [List.flatten_cons, List.length_append, List.length_cons, flatten_len fun c hc => h c (by simp [hc]), h c (by simp), Nat.add_mul]; omega
/-- the new row's cells read as the new rows -/
theorem ins_rel {σ : Sg} {rows : List (List AV)} {c : List AV} {cur xc : List Value} {i : Nat} (hl : ∀ c ∈ rows, c.length = 7) (hi : i ≤ rows.length) (h : RelL σ (cur.take (rows.length * 7)) rows.flatten) (hx : RelL σ xc c) :
    RelL σ (cur.take (i * 7) ++ xc ++ (cur.drop (i * 7)).take ((rows.length - i) * 7)) (rows.take i ++ c :: rows.drop i).flatten := by
  rw [List.flatten_append, List.flatten_cons, flatten_take i hl, flatten_drop i hl, ← List.append_assoc]
  have h1 := h.take (i * 7)
  have h2 := h.drop (i * 7)
  rw [List.take_take, Nat.min_eq_left (by omega)] at h1
  rw [List.drop_take, show rows.length * 7 - i * 7 = (rows.length - i) * 7 by omega] at h2
  exact (h1.append hx).append h2
theorem ins_len {rows : List (List AV)} {c : List AV} {i : Nat} (hl : ∀ c ∈ rows, c.length = 7) (hc : c.length = 7) (hi : i ≤ rows.length) : (rows.take i ++ c :: rows.drop i).length = rows.length + 1 ∧ ∀ d ∈ rows.take i ++ c :: rows.drop i, d.length = 7 := by
  constructor
  · simp; omega
  · intro d hd
    rcases List.mem_append.1 hd with hd | hd
    · exact hl d (List.mem_of_mem_take hd)
    · rcases List.mem_cons.1 hd with rfl | hd
      · exact hc
      · exact hl d (List.mem_of_mem_drop hd)
abbrev InsPost (σ : Sg) (w : World) (g : Nat) (rows' : List (List AV)) (e : Ending) (w' : World) : Prop := ∃ σ' g' cap', e = .returned (.slice (some ⟨g', 0, none⟩) rows'.length cap') ∧ Ext σ σ' w.heap.size ∧ Holds σ' w' ∧ BelowBut g w w' ∧ (g' = g ∨ w.heap.size ≤ g') ∧ FRowW σ' w' g' cap' 7 rows'
theorem ins_same {σ : Sg} {w w' : World} {g cap i : Nat} {e : TypeId} {rows : List (List AV)} {c : List AV} {cur : Array Value} {xc : List Value} {e' : Ending} (hh : Holds σ w) (hsz : cur.size = cap * 7) (hcap : rows.length + 1 ≤ cap) (hl : ∀ c ∈ rows, c.length = 7) (hc : c.length = 7) (hi : i ≤ rows.length)
    (h : RelL σ (cur.toList.take (rows.length * 7)) rows.flatten) (hone : ∀ u ∈ cur.toList, u.oneCell' = true) (hfree : ∀ j, σ g j = none) (hx : RelL σ xc c)
    (hs : InsSame w g cap (rows.length + 1) e (cur.toList.take (i * 7) ++ xc ++ (cur.toList.drop (i * 7)).take ((rows.length - i) * 7) ++ cur.toList.drop ((rows.length + 1) * 7)) e' w') : InsPost σ w g (rows.take i ++ c :: rows.drop i) e' w' := by
  obtain ⟨he, hb, cur', hg', hcur'⟩ := hs
  obtain ⟨l1, l2⟩ := ins_len (c := c) (i := i) hl hc hi
  have hr := ins_rel (xc := xc) hl hi h hx
  have hcl : cur.toList.length = cap * 7 := by simpa using hsz
  have hle : (rows.length + 1) * 7 ≤ cap * 7 := Nat.mul_le_mul_right _ hcap
  have hml : (cur.toList.take (i * 7) ++ xc ++ (cur.toList.drop (i * 7)).take ((rows.length - i) * 7)).length = (rows.length + 1) * 7 := by
    rw [hr.1, flatten_len l2, l1]
  refine ⟨σ, g, cap, by rw [he, l1], Ext.refl _ _, fun b q v hv => ?_, hb, .inl rfl, e, cur', hg', ?_, by rw [l1]; exact hcap, l2, ?_, fun u hu => ?_, hfree⟩
  · have h1 := hh _ _ _ hv
    have hne : b ≠ g := fun e => by rw [e, hfree] at hv; cases hv
    have hlt := World.block_lt_of_cell? w _ h1
    simp only at hlt
    rw [← h1]
    unfold World.cell?
    simp only
    rw [hb.block b hlt hne]
  · have : cur'.toList.length = cap * 7 := by
      rw [hcur', List.length_append, hml, List.length_drop, hcl]
      omega
    simpa using this
  · rw [l1, hcur', ← hml, List.take_left]
    exact hr
  · rw [hcur'] at hu
    rcases List.mem_append.1 hu with hu | hu
    · exact hr.one u hu
    · exact hone u (List.mem_of_mem_drop hu)
theorem ins_new {σ : Sg} {w w' : World} {k : Nat} {cs : List Value} {rows : List (List AV)} {e' : Ending} (hh : Holds σ w) (hk : rows.length = k) (hl : ∀ c ∈ rows, c.length = 7) (hr : RelL σ cs rows.flatten) (hs : InsNew w k cs e' w') :
    ∃ σ' g cap, e' = .returned (.slice (some ⟨g, 0, none⟩) rows.length cap) ∧ Ext σ σ' w.heap.size ∧ Holds σ' w' ∧ Below w.heap.size w w' ∧ w.heap.size ≤ g ∧ FRowW σ' w' g cap 7 rows := by
  obtain ⟨cap', zs, h1, h2, h3, he, w0, hw, hb, hg⟩ := hs
  have hcl : cs.length = k * 7 := by rw [hr.1, flatten_len hl, hk]
  refine ⟨σ, w.heap.size, cap', by rw [he, hk], Ext.refl _ _, fun b q v hv => (hb.cell (p := ⟨b, q, none⟩) (World.block_lt_of_cell? w _ (hh _ _ _ hv))).trans (hh _ _ _ hv), hb, Nat.le_refl _, 73, _, by rw [hw]; exact hg, ?_, by omega, hl, ?_, fun u hu => ?_, fun j => ?_⟩
  · simp only [List.size_toArray, List.length_append]
    omega
  · rw [hk, ← hcl]
    simpa using hr
  · rcases List.mem_append.1 (by simpa using hu) with hu | hu
    · exact hr.one u hu
    · exact h2 u hu
  · cases hs : σ w.heap.size j with
    | none => rfl
    | some v =>
      have := World.block_lt_of_cell? w _ (hh _ _ _ hs)
      simp at this
/-- the one pair that is laid in -/
theorem one_row {σ : Sg} {w : World} (hh : Holds σ w) {vs : List Value} {i : Int} {c : List AV} (hr : RelPs σ vs [.int .i64 i, .lst .any 7 [c]]) : ∃ (xcap xb xo : Nat) (xc : List Value), vs = [.int .i64 i, .slice (some ⟨xb, xo, none⟩) 1 xcap] ∧ xc.length = 7 ∧ c.length = 7 ∧ RelL σ xc c ∧ (∀ (j : Nat) v, xc[j]? = some v → w.cell? ⟨xb, xo + j, none⟩ = some v) ∧ ∃ v, σ xb xo = some v := by
  have hl : vs.length = 2 := hr.1
  obtain ⟨v1, v2, rfl⟩ : ∃ a b, vs = [a, b] := by
    rcases vs with _ | ⟨a, _ | ⟨b, _ | ⟨d, l⟩⟩⟩ <;> simp at hl
    exact ⟨a, b, rfl⟩
  have h1 : Rel1 σ v1 (.int .i64 i) := hr.2 0 v1 _ rfl rfl
  have h2 : Rel1 σ v2 (.lst .any 7 [c]) := hr.2 1 v2 _ rfl rfl
  cases h1
  obtain ⟨A, xcap, xb, xo, xc, rfl, hcap, hA, hsz, hnl, hrel, hcell⟩ := lst_cells h2
  have := hA (by simp)
  subst this
  have hc := hsz c (by simp)
  have hx7 : xc.length = 7 := by simpa using hnl
  refine ⟨xcap, xb, xo, xc, rfl, hx7, hc, by simpa using hrel, fun j v hv => hh _ _ _ (hcell j v hv), ?_⟩
  have h0 : xc[0]? = some xc[0] := List.getElem?_eq_getElem (by omega)
  exact ⟨_, hcell 0 _ h0⟩
theorem insert_mn (c : List AV) : MN Tryd.prog 35 [.int .i64 0, .lst .any 7 [c]] 7 [c] := by
  refine ⟨by kernel_rfl, fun σ w vs hh hr hg => ?_⟩
  obtain ⟨xcap, xb, xo, xc, rfl, hx7, hc, hxr, hxc, _⟩ := one_row hh hr
  exact (insert_nil xc xb xo xcap w hx7 hxc).mono fun e w' h => ins_new hh rfl (by simpa using hc) (by simpa using hxr) h
theorem insert_mr (rows : List (List AV)) (i : Nat) (c : List AV) (hi : i ≤ rows.length) (hb : (rows.length + 1) * 104 ≤ 140737488355328) :
    MR Tryd.prog 35 7 rows [.int .i64 i, .lst .any 7 [c]] (rows.take i ++ c :: rows.drop i) := by
  refine ⟨by kernel_rfl, fun σ w g cap vs hh hF hr hg => ?_⟩
  obtain ⟨xcap, xb, xo, xc, rfl, hx7, hc, hxr, hxc, xv, hxs⟩ := one_row hh hr
  obtain ⟨e, cur, hg, hsz, hcap, hl, hrel, hone, hfree⟩ := hF
  have hcl : cur.toList.length = cap * 7 := by simpa using hsz
  obtain ⟨l1, l2⟩ := ins_len (c := c) (i := i) hl hc hi
  have hr' := ins_rel (xc := xc) hl hi hrel hxr
  have hgw : g < w.heap.size := (Array.getElem?_eq_some_iff.1 hg).1
  have fromNew : ∀ e' w', InsNew w (rows.length + 1) (cur.toList.take (i * 7) ++ xc ++ (cur.toList.drop (i * 7)).take ((rows.length - i) * 7)) e' w' → InsPost σ w g (rows.take i ++ c :: rows.drop i) e' w' := fun e' w' h => by
    obtain ⟨σ', g', cap', k1, k2, k3, k4, k5, k6⟩ := ins_new hh l1 l2 hr' h
    exact ⟨σ', g', cap', k1, k2, k3, ⟨k4.os, k4.tape, k4.output, k4.size, fun k hk _ => k4.block k hk⟩, .inr k5, k6⟩
  by_cases hroom : rows.length + 1 ≤ cap
  · have hle : (rows.length + 1) * 7 ≤ cap * 7 := Nat.mul_le_mul_right _ hroom
    by_cases hin : i = rows.length
    · subst hin
      refine (insert_end_room g cap rows.length e cur xc xb xo xcap w hg hsz hroom hx7 hxc hxr.one).mono fun e' w' h => ?_
      obtain ⟨h1, rfl⟩ := h
      refine ins_same (i := rows.length) hh hsz hroom hl hc (Nat.le_refl _) hrel hone hfree hxr (e := e) ⟨h1, below_but rfl rfl rfl _ rfl, _, setRow_heap w g cur _ e (0, 0) hg, ?_⟩
      · rw [Nat.sub_self, Nat.zero_mul, List.take_zero, List.append_nil, Nat.add_mul]
    · have hne : xb ≠ g := fun e => by rw [e, hfree] at hxs; cases hxs
      obtain ⟨tA, kA, hsa⟩ := shape_of_cell (hh _ _ _ hxs)
      obtain ⟨kB, hkB⟩ : ∃ kB, cur.size = kB + 1 := ⟨cur.size - 1, by omega⟩
      have hsb : w.shape? g = some (e, kB + 1) := by unfold World.shape?; rw [hg, ← hkB]
      have hov : ∀ lb cb, (callFunc 59 #[.slice (some ⟨xb, xo, none⟩) 1 xcap, .slice (some ⟨g, (i + 1) * 7, none⟩) lb cb]).run Tryd.prog w = .ok (.value (.bool false)) w := fun lb cb => by
        rw [run_callFunc_extern Tryd.func59 (by kernel_rfl) (by kernel_rfl) (by kernel_rfl) (e := Extern.SlicesOverlaps.overlaps #[28, 28] #[4]) (by kernel_rfl),
          run_overlaps_row w 28 4 73 Tryd.underlying28 7 (fun w => by obtain ⟨i0, hi0, hz0, hzs, hzb⟩ := info_parts info_pair; simp [sizeOf, typeInfo, hi0, hzs]) ⟨xb, xo, none⟩ ⟨g, (i + 1) * 7, none⟩ 1 xcap lb cb hne tA e kA kB hsa hsb (by unfold World.frozen?; rw [hg]; simp) (by unfold World.frozen?; rw [hg]; simp)]
        rfl
      exact (insert_shift g cap rows.length i e cur xc xb xo xcap w hg hsz hroom (by omega) hone (by omega) hx7 hxc hxr.one hne hov).mono fun e' w' h => ins_same hh hsz hroom hl hc hi hrel hone hfree hxr h
  · by_cases hin : i = rows.length
    · subst hin
      refine (insert_end_grow g cap rows.length (cur.toList.take (rows.length * 7)) xc xb xo xcap w (by omega) hb (by rw [List.length_take]; have : rows.length * 7 ≤ cap * 7 := Nat.mul_le_mul_right _ hcap; omega) (fun j v hj => ?_) hx7 hxc).mono fun e' w' h => fromNew e' w' ?_
      · rw [cell_of_row w g _ cur e (0, 0) hg]
        rw [List.getElem?_take] at hj
        split at hj
        · simpa using hj
        · cases hj
      · rw [Nat.sub_self, Nat.zero_mul, List.take_zero, List.append_nil]
        exact h
    · exact (insert_grow g cap rows.length i e cur xc xb xo xcap w hg hsz hcap (by omega) hb (by omega) hone hx7 hxc hxr.one).mono fromNew
end Go.Proofs.YtgcodocajgdmcaaDoor
