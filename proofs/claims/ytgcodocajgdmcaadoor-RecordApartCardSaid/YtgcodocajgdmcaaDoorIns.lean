/-
  A pair laid into a sorted list of pairs: the plain laws.
-/
import Derived.Test.YtgcodocajgdmcaaDoorPr2
namespace Go.Proofs.YtgcodocajgdmcaaDoor
set_option linter.unusedSimpArgs false
set_option linter.unusedVariables false
open Go.RowKit

abbrev Rises (m : List (ByteArray × V)) : Prop := m.Pairwise (fun p q => klt p.1 q.1)
def minsert (key : ByteArray) (x : V) : List (ByteArray × V) → List (ByteArray × V)
  | [] => [(key, x)]
  | (k, y) :: m => if cmpS k key < 0 then (k, y) :: minsert key x m else if cmpS k key = 0 then (key, x) :: m else (key, x) :: (k, y) :: m
theorem klt_tri {a b : ByteArray} (h : ¬ cmpS a b < 0) (h2 : cmpS a b ≠ 0) : klt b a := by
  have h3 : ¬ klt a b := fun k => h (cmpS_lt.2 k)
  have h4 : a ≠ b := fun e => h2 (cmpS_eq.2 e)
  refine bytes_tri (by simpa [klt] using h3) (by
    rw [bytes_beq]
    simpa using h4)
theorem minsert_mem {key : ByteArray} {x : V} : ∀ {m : List (ByteArray × V)} {p : ByteArray × V}, p ∈ minsert key x m → p = (key, x) ∨ p ∈ m
  | [], p, h => by simpa [minsert] using h
  | (k, y) :: m, p, h => by
    rw [minsert] at h
    split at h
    · rcases List.mem_cons.1 h with rfl | h
      · simp
      · rcases minsert_mem h with h | h
        · exact .inl h
        · exact .inr (by simp [h])
    · split at h
      · rcases List.mem_cons.1 h with rfl | h
        · simp
        · exact .inr (by simp [h])
      · rcases List.mem_cons.1 h with rfl | h
        · simp
        · exact .inr h
theorem minsert_rises {key : ByteArray} {x : V} : ∀ {m : List (ByteArray × V)}, Rises m → Rises (minsert key x m)
  | [], _ => by simp [minsert, Rises]
  | (k, y) :: m, h => by
    have h1 := List.pairwise_cons.1 h
    rw [minsert]
    split
    · rename_i hlt
      refine List.pairwise_cons.2 ⟨fun p hp => ?_, minsert_rises h1.2⟩
      rcases minsert_mem hp with rfl | hp
      · exact cmpS_lt.1 hlt
      · exact h1.1 p hp
    · rename_i hlt
      split
      · rename_i heq
        have := cmpS_eq.1 heq
        subst this
        exact List.pairwise_cons.2 ⟨fun p hp => h1.1 p hp, h1.2⟩
      · rename_i hne
        have hk := klt_tri hlt hne
        refine List.pairwise_cons.2 ⟨fun p hp => ?_, h⟩
        rcases List.mem_cons.1 hp with rfl | hp
        · exact hk
        · exact klt_trans hk (h1.1 p hp)
theorem minsert_bound {key : ByteArray} {x : V} : ∀ (m : List (ByteArray × V)), sizeM (minsert key x m) ≤ sizeM m + x.size ∧ (minsert key x m).length ≤ m.length + 1
  | [] => by simp [minsert, sizeM]
  | (k, y) :: m => by
    have ih := minsert_bound (key := key) (x := x) m
    rw [minsert]
    split
    · simp only [sizeM, List.length_cons]; omega
    · split
      · simp only [sizeM, List.length_cons]; omega
      · simp only [sizeM, List.length_cons]; omega
theorem bpos_cons (key : ByteArray) (p : ByteArray × V) (m : List (ByteArray × V)) : bpos key (p :: m) = if cmpS p.1 key < 0 then bpos key m + 1 else 0 := by
  rw [bpos, List.takeWhile_cons]
  by_cases h : cmpS p.1 key < 0
  · rw [if_pos (by simpa [bless] using h), if_pos h]; rfl
  · rw [if_neg (by simpa [bless] using h), if_neg h]; rfl
theorem bfound_cons (key : ByteArray) (p : ByteArray × V) (m : List (ByteArray × V)) : bfound key (p :: m) = if cmpS p.1 key < 0 then bfound key m else decide (cmpS p.1 key = 0) := by
  rw [bfound, bpos_cons]
  by_cases h : cmpS p.1 key < 0
  · rw [if_pos h, if_pos h]; rfl
  · rw [if_neg h, if_neg h]; rfl
theorem minsert_found {key : ByteArray} {x : V} : ∀ {m : List (ByteArray × V)}, bfound key m = true → minsert key x m = m.set (bpos key m) (key, x) ∧ ∃ y, m[bpos key m]? = some (key, y)
  | [], h => by simp [bfound, bpos] at h
  | (k, y) :: m, h => by
    rw [bfound_cons] at h
    rw [minsert, bpos_cons]
    by_cases hlt : cmpS k key < 0
    · rw [if_pos hlt] at h ⊢
      rw [if_pos hlt]
      obtain ⟨h1, h2⟩ := minsert_found (x := x) h
      exact ⟨by rw [h1]; rfl, h2⟩
    · rw [if_neg hlt] at h ⊢
      rw [if_neg hlt]
      have h0 : cmpS k key = 0 := by simpa using h
      have := cmpS_eq.1 h0
      subst this
      rw [if_pos h0]
      exact ⟨rfl, y, rfl⟩
theorem minsert_new {key : ByteArray} {x : V} : ∀ {m : List (ByteArray × V)}, bfound key m = false → minsert key x m = m.take (bpos key m) ++ (key, x) :: m.drop (bpos key m)
  | [], _ => rfl
  | (k, y) :: m, h => by
    rw [bfound_cons] at h
    rw [minsert, bpos_cons]
    by_cases hlt : cmpS k key < 0
    · rw [if_pos hlt] at h ⊢
      rw [if_pos hlt, minsert_new (x := x) h]
      rfl
    · rw [if_neg hlt] at h ⊢
      rw [if_neg hlt, if_neg (by simpa using h)]
      rfl
/-- the map of pairs -/
def mapOf (l : List (ByteArray × V)) : List (ByteArray × V) := l.foldl (fun m p => minsert p.1 p.2 m) []
theorem mapOf_take {l : List (ByteArray × V)} {k : Nat} {p : ByteArray × V} (h : l[k]? = some p) : mapOf (l.take (k + 1)) = minsert p.1 p.2 (mapOf (l.take k)) := by
  rw [mapOf, take_snoc h, List.foldl_append]
  rfl
theorem mapOf_facts (l : List (ByteArray × V)) : Rises (mapOf l) ∧ sizeM (mapOf l) ≤ sizeM l ∧ (mapOf l).length ≤ l.length := by
  have key : ∀ (l m : List (ByteArray × V)), Rises m → Rises (l.foldl (fun m p => minsert p.1 p.2 m) m) ∧ sizeM (l.foldl (fun m p => minsert p.1 p.2 m) m) ≤ sizeM m + sizeM l ∧ (l.foldl (fun m p => minsert p.1 p.2 m) m).length ≤ m.length + l.length := by
    intro l
    induction l with
    | nil => intro m hm; simp [sizeM, hm]
    | cons p l ih =>
      intro m hm
      obtain ⟨k, x⟩ := p
      have hb := minsert_bound (key := k) (x := x) m
      obtain ⟨h1, h2, h3⟩ := ih (minsert k x m) (minsert_rises hm)
      simp only [List.foldl_cons, sizeM, List.length_cons]
      exact ⟨h1, by omega, by omega⟩
  obtain ⟨h1, h2, h3⟩ := key l [] List.Pairwise.nil
  exact ⟨h1, by simp only [sizeM, Nat.zero_add] at h2; exact h2, by simp only [List.length_nil, Nat.zero_add] at h3; exact h3⟩
theorem minsert_last {key : ByteArray} {x : V} : ∀ {m : List (ByteArray × V)}, (∀ p ∈ m, klt p.1 key) → minsert key x m = m ++ [(key, x)]
  | [], _ => rfl
  | (k, y) :: m, h => by
    rw [minsert, if_pos (cmpS_lt.2 (h (k, y) (by simp))), minsert_last fun p hp => h p (by simp [hp])]
    rfl
theorem mapOf_rises {l : List (ByteArray × V)} (h : Rises l) : mapOf l = l := by
  have key : ∀ (l m : List (ByteArray × V)), Rises (m ++ l) → l.foldl (fun m p => minsert p.1 p.2 m) m = m ++ l := by
    intro l
    induction l with
    | nil => intro m _; simp
    | cons p l ih =>
      intro m hm
      rw [List.foldl_cons, minsert_last (fun q hq => (List.pairwise_append.1 hm).2.2 q hq p (by simp)), ih _ (by simpa using hm)]
      simp
  exact key l [] (by simpa using h)
theorem rowsM_set (m : List (ByteArray × V)) (i : Nat) (y : ByteArray) (x : V) : rowsM (m.set i (y, x)) = (rowsM m).set i (.str y :: cellsV x) := by
  induction m generalizing i with
  | nil => rfl
  | cons p m ih =>
    obtain ⟨k, z⟩ := p
    cases i with
    | zero => rfl
    | succ i => simp [rowsM, ih]
theorem rowsM_append (a b : List (ByteArray × V)) : rowsM (a ++ b) = rowsM a ++ rowsM b := by
  induction a with
  | nil => rfl
  | cons p a ih => obtain ⟨k, z⟩ := p; simp [rowsM, ih]
theorem rowsM_take (m : List (ByteArray × V)) (i : Nat) : rowsM (m.take i) = (rowsM m).take i := by
  induction m generalizing i with
  | nil => cases i <;> rfl
  | cons p m ih => obtain ⟨k, z⟩ := p; cases i <;> simp [rowsM, ih]
theorem rowsM_drop (m : List (ByteArray × V)) (i : Nat) : rowsM (m.drop i) = (rowsM m).drop i := by
  induction m generalizing i with
  | nil => cases i <;> rfl
  | cons p m ih => obtain ⟨k, z⟩ := p; cases i <;> simp [rowsM, ih]
end Go.Proofs.YtgcodocajgdmcaaDoor
