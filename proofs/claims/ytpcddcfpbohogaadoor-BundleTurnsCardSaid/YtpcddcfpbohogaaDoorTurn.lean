/-
  A list turned around: the same map (the Bundle's). Plain laws, no program in sight.
-/
import Derived.Test.YtpcddcfpbohogaaDoorOvP
namespace Go.Proofs.YtpcddcfpbohogaaDoor
set_option linter.unusedSimpArgs false
set_option linter.unusedVariables false
open Go.RowKit

theorem rises_ext : ∀ {m m' : List (ByteArray × V)}, Rises m → Rises m' → (∀ k, mfind k m = mfind k m') → m = m'
  | [], [], _, _, _ => rfl
  | [], (k, x) :: m', _, _, h => by have := h k; rw [mfind, mfind, if_pos rfl] at this; cases this
  | (k, x) :: m, [], _, _, h => by have := h k; rw [mfind, mfind, if_pos rfl] at this; cases this
  | (k, x) :: m, (k', x') :: m', hr, hr', h => by
    have hc := List.pairwise_cons.1 hr
    have hc' := List.pairwise_cons.1 hr'
    have hno : ∀ {j : ByteArray} {l : List (ByteArray × V)}, (∀ p ∈ l, klt j p.1) → mfind j l = none := fun hl => mfind_no fun p hp e => klt_ne (hl p hp) e.symm
    have hk : k = k' := by
      apply Decidable.byContradiction
      intro hne
      by_cases hlt : cmpS k k' < 0
      · have h1 := cmpS_lt.1 hlt
        have h2 := h k
        rw [mfind, if_pos rfl, hno (j := k) (l := (k', x') :: m') (fun p hp => by
          rcases List.mem_cons.1 hp with rfl | hp
          · exact h1
          · exact klt_trans h1 (hc'.1 p hp))] at h2
        cases h2
      · have h1 := klt_tri hlt (fun e => hne (cmpS_eq.1 e))
        have h2 := h k'
        rw [mfind.eq_def k' ((k', x') :: m')] at h2
        simp only [if_pos] at h2
        rw [hno (j := k') (l := (k, x) :: m) (fun p hp => by
          rcases List.mem_cons.1 hp with rfl | hp
          · exact h1
          · exact klt_trans h1 (hc.1 p hp))] at h2
        cases h2
    subst hk
    have hx : x = x' := by
      have := h k
      rw [mfind, mfind, if_pos rfl, if_pos rfl] at this
      exact Option.some.inj this
    subst hx
    rw [rises_ext hc.2 hc'.2 fun j => ?_]
    by_cases e : k = j
    · subst e
      rw [hno (fun p hp => hc.1 p hp), hno (fun p hp => hc'.1 p hp)]
    · have := h j
      rw [mfind, mfind, if_neg e, if_neg e] at this
      exact this
def keysNd (l : List (ByteArray × V)) : Prop := (l.map Prod.fst).Nodup
theorem keysNd_cons {p : ByteArray × V} {l : List (ByteArray × V)} : keysNd (p :: l) ↔ (∀ q ∈ l, q.1 ≠ p.1) ∧ keysNd l := by
  rw [keysNd, List.map_cons, List.nodup_cons]
  refine and_congr ⟨fun h q hq e => h (by rw [← e]; exact List.mem_map_of_mem hq), fun h hm => ?_⟩ Iff.rfl
  obtain ⟨q, hq, e⟩ := List.mem_map.1 hm
  exact h q hq e
theorem find_fold {k : ByteArray} : ∀ (l m : List (ByteArray × V)), Rises m → keysNd l → mfind k (l.foldl (fun m p => minsert p.1 p.2 m) m) = (match mfind k l with | some x => some x | none => mfind k m)
  | [], m, _, _ => rfl
  | (y, x) :: l, m, hr, hd => by
    obtain ⟨h1, h2⟩ := keysNd_cons.1 hd
    rw [List.foldl_cons, find_fold l _ (minsert_rises hr) h2, mfind_minsert hr, mfind]
    by_cases e : y = k
    · subst e
      rw [mfind_no fun q hq => h1 q hq, if_pos rfl, if_pos rfl]
    · rw [if_neg e, if_neg fun h => e h.symm]
theorem find_mapOf {k : ByteArray} {l : List (ByteArray × V)} (h : keysNd l) : mfind k (mapOf l) = mfind k l := by
  rw [mapOf, find_fold l [] List.Pairwise.nil h]
  cases mfind k l <;> rfl
theorem find_iff {k : ByteArray} {x : V} : ∀ {l : List (ByteArray × V)}, keysNd l → (mfind k l = some x ↔ (k, x) ∈ l)
  | [], _ => by simp [mfind]
  | (y, z) :: l, h => by
    obtain ⟨h1, h2⟩ := keysNd_cons.1 h
    rw [mfind]
    by_cases e : y = k
    · subst e
      rw [if_pos rfl]
      refine ⟨fun h => by cases h; exact List.mem_cons_self, fun h => ?_⟩
      rcases List.mem_cons.1 h with h | h
      · cases h; rfl
      · exact (h1 (y, x) h rfl).elim
    · rw [if_neg e, find_iff h2]
      refine ⟨fun h => List.mem_cons_of_mem _ h, fun h => ?_⟩
      rcases List.mem_cons.1 h with h | h
      · cases h; exact absurd rfl e
      · exact h
theorem mapOf_perm {l l' : List (ByteArray × V)} (hp : l.Perm l') (h : keysNd l) : mapOf l = mapOf l' := by
  have h' : keysNd l' := (hp.map Prod.fst).nodup_iff.1 h
  refine rises_ext (mapOf_facts l).1 (mapOf_facts l').1 fun k => ?_
  rw [find_mapOf h, find_mapOf h']
  cases e : mfind k l with
  | some x => exact ((find_iff h').2 (hp.mem_iff.1 ((find_iff h).1 e))).symm
  | none =>
    cases e' : mfind k l' with
    | none => rfl
    | some x =>
      have := (find_iff h).2 (hp.mem_iff.2 ((find_iff h').1 e'))
      rw [e] at this
      cases this
/-- a list turned around -/
def turn {α : Type} (l : List α) (k : Nat) : List α := l.drop (k % l.length) ++ l.take (k % l.length)
theorem turn_perm {α : Type} (l : List α) (k : Nat) : (turn l k).Perm l := by
  have := (List.perm_append_comm (l₁ := l.drop (k % l.length)) (l₂ := l.take (k % l.length)))
  rw [List.take_append_drop] at this
  exact this
theorem turn_len {α : Type} (l : List α) (k : Nat) : (turn l k).length = l.length := (turn_perm l k).length_eq
theorem turn_at {α : Type} {l : List α} {k i : Nat} (hi : i < l.length) : (turn l k)[i]? = l[(i + k) % l.length]? := by
  have hk : k % l.length < l.length := Nat.mod_lt _ (by omega)
  have e : (i + k) % l.length = (i + k % l.length) % l.length := by rw [Nat.add_mod_mod]
  rw [turn, e]
  clear e
  generalize k % l.length = r at hk ⊢
  by_cases h : i < l.length - r
  · rw [List.getElem?_append_left (by rw [List.length_drop]; exact h), List.getElem?_drop, Nat.mod_eq_of_lt (show i + r < l.length by omega), Nat.add_comm]
  · have e2 : (i + r) % l.length = i + r - l.length := by
      rw [Nat.mod_eq_sub_mod (show l.length ≤ i + r by omega), Nat.mod_eq_of_lt (by omega)]
    rw [List.getElem?_append_right (by rw [List.length_drop]; omega), List.length_drop, List.getElem?_take, if_pos (by omega), e2]
    congr 1
    omega
end Go.Proofs.YtpcddcfpbohogaaDoor
