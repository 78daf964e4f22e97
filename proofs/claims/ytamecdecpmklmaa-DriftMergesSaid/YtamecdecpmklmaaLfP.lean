/-
  Leaves, keys and sizes of maps: plain laws.
-/
import Derived.Test.YtamecdecpmklmaaAwk
namespace Go.Proofs.Ytamecdecpmklmaa
set_option linter.unusedSimpArgs false
set_option linter.unusedVariables false
open Go.RowKit

theorem risingK_of_rises {m : List (ByteArray × V)} (h : Rises m) : risingK m := by
  refine risingK_of fun i p q hp hq => ?_
  obtain ⟨h1, e1⟩ := List.getElem?_eq_some_iff.1 hp
  obtain ⟨h2, e2⟩ := List.getElem?_eq_some_iff.1 hq
  have := List.pairwise_iff_getElem.1 h i (i + 1) h1 h2 (by omega)
  rw [e1, e2] at this
  exact this
theorem good_keyB {v : V} (h : v.good) {p : ByteArray × V} (hp : p ∈ v.m) : keyB p.1 = true := ((goodM_iff _).1 (v.good_eq.1 h).2.2.2.1 p hp).1
theorem mfind_minsert {k s : ByteArray} {y : V} : ∀ {m : List (ByteArray × V)}, Rises m → mfind k (minsert s y m) = if k = s then some y else mfind k m
  | [], _ => by
    simp only [minsert, mfind]
    by_cases h : s = k
    · rw [if_pos h, if_pos h.symm]
    · rw [if_neg h, if_neg (fun e => h e.symm)]
  | (a, z) :: m, h => by
    have hc := List.pairwise_cons.1 h
    rw [minsert]
    split
    · rename_i hlt
      have hne : a ≠ s := klt_ne (cmpS_lt.1 hlt)
      rw [mfind, mfind, mfind_minsert hc.2]
      by_cases h1 : a = k
      · rw [if_pos h1, if_pos h1, if_neg (fun e => hne (h1.trans e))]
      · rw [if_neg h1, if_neg h1]
    · split
      · rename_i he
        have := cmpS_eq.1 he
        subst this
        rw [mfind, mfind]
        by_cases h1 : a = k
        · rw [if_pos h1, if_pos h1.symm]
        · rw [if_neg h1, if_neg (fun e => h1 e.symm), if_neg h1]
      · rw [mfind]
        by_cases h1 : s = k
        · rw [if_pos h1, if_pos h1.symm]
        · rw [if_neg h1, if_neg (fun e => h1 e.symm)]
theorem leaf_split {v : V} (hm : v.m ≠ []) {q : Path × V} (hq : q ∈ v.leaves) : ∃ k u r, (k, u) ∈ v.m ∧ r ∈ u.leaves ∧ q = (k :: r.1, r.2) := by
  rw [V.leaves_eq, if_neg (by simpa using hm)] at hq
  obtain ⟨p, hp, r, hr, e⟩ := mem_leavesM.1 hq
  exact ⟨p.1, p.2, r, hp, hr, e⟩
theorem leaf_nil {v : V} (hm : v.m = []) : v.leaves = [([], v)] := by rw [V.leaves_eq, hm]; rfl
theorem leaf_join {v : V} {k : ByteArray} {u : V} {r : Path × V} (hp : (k, u) ∈ v.m) (hr : r ∈ u.leaves) : (k :: r.1, r.2) ∈ v.leaves := by
  have hm : v.m ≠ [] := fun e => by rw [e] at hp; cases hp
  rw [V.leaves_eq, if_neg (by simpa using hm)]
  exact mem_leavesM.2 ⟨(k, u), hp, r, hr, rfl⟩
theorem vMap_m (m : List (ByteArray × V)) : (vMap m).m = m := rfl
theorem vMap_leaves {m : List (ByteArray × V)} (h : m ≠ []) : (vMap m).leaves = leavesM m := by rw [V.leaves_eq, vMap_m, if_neg (by simpa using h)]
theorem minsert_ne {s : ByteArray} {y : V} (m : List (ByteArray × V)) : minsert s y m ≠ [] := by
  cases m with
  | nil => simp [minsert]
  | cons p m =>
    obtain ⟨k, z⟩ := p
    rw [minsert]
    by_cases h1 : cmpS k s < 0
    · rw [if_pos h1]; simp
    · rw [if_neg h1]
      by_cases h2 : cmpS k s = 0
      · rw [if_pos h2]; simp
      · rw [if_neg h2]; simp
theorem vMap_minsert_good {v y : V} {s : ByteArray} (hg : v.good) (hy : y.good) (hs : keyB s = true) : (vMap (minsert s y v.m)).good := by
  refine vMap_good (fun p hp => ?_) (risingK_of_rises (minsert_rises (good_rises hg)))
  rcases minsert_mem hp with rfl | hp
  · exact ⟨hs, hy⟩
  · exact ⟨good_keyB hg hp, good_m hg hp⟩
theorem minsert_size {s : ByteArray} {i y : V} {m : List (ByteArray × V)} (hr : Rises m) (h : (s, i) ∈ m) : sizeM (minsert s y m) + i.size = sizeM m + y.size := by
  have key : ∀ (m : List (ByteArray × V)) (y : V), Rises m → (s, i) ∈ m → sizeM (minsert s y m) + i.size = sizeM m + y.size := by
      intro m
      induction m with
      | nil => intro y _ h; cases h
      | cons p m ihm =>
        obtain ⟨k, u⟩ := p
        intro y hr hp
        have hc := List.pairwise_cons.1 hr
        rw [minsert]
        rcases List.mem_cons.1 hp with e | hp
        · injection e with e1 e2
          subst e1 e2
          rw [if_neg (by rw [cmpS_eq.2 rfl]; omega), if_pos (cmpS_eq.2 rfl)]
          simp only [sizeM]
          omega
        · rw [if_pos (cmpS_lt.2 (hc.1 (s, i) hp))]
          have := ihm y hc.2 hp
          simp only [sizeM]
          omega
  exact key m y hr h
theorem leaves_pos : ∀ (n : Nat) (v : V), v.size ≤ n → 0 < v.leaves.length := by
  intro n
  induction n with
  | zero => intro v h; have := v.size_pos; omega
  | succ n ih =>
    intro v h
    by_cases hm : v.m = []
    · rw [leaf_nil hm]; simp
    · have hve := v.size_eq
      rw [V.leaves_eq, if_neg (by simpa using hm)]
      cases hvm : v.m with
      | nil => exact absurd hvm hm
      | cons q m =>
        obtain ⟨k, u⟩ := q
        rw [hvm] at hve
        simp only [sizeM] at hve
        have := ih u (by omega)
        rw [leavesM, List.length_append, List.length_map]
        omega
end Go.Proofs.Ytamecdecpmklmaa
