/-
  The cells of a slice that reads as rows.
-/
import Derived.Test.YtgekcnpfflhpkaaGreatDoorAF
namespace Go.Proofs.YtgekcnpfflhpkaaGreatDoor
set_option linter.unusedSimpArgs false
set_option linter.unusedVariables false
open Go.RowKit

/-- the cells of a slice that reads as rows -/
theorem lst_cells {σ : Sg} {v : Value} {t : Tag} {esz : Nat} {l : List (List AV)} (h : Rel1 σ v (.lst t esz l)) : ∃ (A : Option Addr) (cap b o : Nat) (news : List Value), v = .slice A l.length cap ∧ l.length ≤ cap ∧ (0 < l.length → A = some ⟨b, o, none⟩) ∧ (∀ c ∈ l, c.length = esz) ∧
    news.length = l.length * esz ∧ RelL σ news l.flatten ∧ ∀ (q : Nat) u, news[q]? = some u → σ b (o + q) = some u := by
  cases h with
  | lst t esz l A n cap b o f hn hlen hA hsz hσ hr ht =>
    subst hn
    have hsz' : ∀ c ∈ l, c.length = esz := fun c hc => by
      obtain ⟨i, hi⟩ := List.getElem?_of_mem hc
      exact hsz i c hi
    have hfl : ∀ l : List (List AV), (∀ c ∈ l, c.length = esz) → l.flatten.length = l.length * esz := by
      intro l
      induction l with
      | nil => intro _; simp
      | cons x l ih => intro hx; rw [List.flatten_cons, List.length_append, List.length_cons, ih fun c hc => hx c (by simp [hc]), hx x (by simp), Nat.add_mul]; omega
    have hat : ∀ (l : List (List AV)) (i j : Nat) (c : List AV) (a : AV), (∀ c ∈ l, c.length = esz) → l[i]? = some c → c[j]? = some a → l.flatten[i * esz + j]? = some a := by
      intro l
      induction l with
      | nil => intro i j c a _ h; simp at h
      | cons y l ih =>
        intro i j c a hx hc ha
        have hy := hx y (by simp)
        rw [List.flatten_cons]
        cases i with
        | zero =>
          simp at hc
          subst hc
          rw [Nat.zero_mul, Nat.zero_add, List.getElem?_append_left (List.getElem?_eq_some_iff.1 ha).1]
          exact ha
        | succ i =>
          rw [List.getElem?_append_right (by rw [hy, Nat.add_mul]; omega), hy, show (i + 1) * esz + j - esz = i * esz + j by rw [Nat.add_mul]; omega]
          exact ih i j c a (fun c hc => hx c (by simp [hc])) (by simpa using hc) ha
    refine ⟨A, cap, b, o, flatV l.length esz f, rfl, hlen, hA, hsz', flatV_len _ _ _, ⟨by rw [flatV_len, hfl l hsz'], fun q v a hv ha => ?_⟩, fun q u hu => flatV_cells hσ q u hu⟩
    have hq : q < l.length * esz := by have := (List.getElem?_eq_some_iff.1 hv).1; rwa [flatV_len] at this
    have he : 0 < esz := by
      rcases Nat.eq_zero_or_pos esz with h | h
      · subst h; omega
      · exact h
    rw [flatV_at f hq] at hv
    cases hv
    have h1 : q / esz < l.length := Nat.div_lt_of_lt_mul (by rw [Nat.mul_comm]; exact hq)
    have h2 : l[q / esz]? = some l[q / esz] := List.getElem?_eq_getElem h1
    have h3 : q % esz < (l[q / esz]).length := by rw [hsz _ _ h2]; exact Nat.mod_lt _ he
    have h4 := List.getElem?_eq_getElem h3
    have h5 := hat l _ _ _ _ hsz' h2 h4
    have e : q / esz * esz + q % esz = q := by
      have := Nat.div_add_mod q esz
      rw [Nat.mul_comm] at this
      exact this
    rw [e, ha] at h5
    cases h5
    exact hr _ _ _ _ h2 h4
end Go.Proofs.YtgekcnpfflhpkaaGreatDoor
