/-
  The program's comparison of values: plainly, and walked.
-/
import Derived.Test.YtgcodocajgdmcaaDoorPr3
namespace Go.Proofs.YtgcodocajgdmcaaDoor
set_option linter.unusedSimpArgs false
set_option linter.unusedVariables false
open Go.RowKit

def cmpI (a b : Int) : Int := if a < b then -1 else if b < a then 1 else 0
def cmpBo (a b : Bool) : Int := if (a == b) = true then 0 else if b = true then -1 else 1
def cmpOr (c d : Int) : Int := if c ≠ 0 then c else d
mutual
def V.cmpC : V → V → Int
  | .mk k b n s l m, w => if cmpI k w.kind ≠ 0 then cmpI k w.kind else if k = 1 then cmpBo b w.b else if k = 2 then cmpI n w.n else if k = 3 then cmpS s w.s else if k = 4 then cmpL l w.l else if k = 5 then cmpM m w.m else 0
def cmpL : List V → List V → Int
  | [], [] => 0
  | [], _ :: _ => -1
  | _ :: _, [] => 1
  | x :: l, y :: w => if x.cmpC y ≠ 0 then x.cmpC y else cmpL l w
def cmpM : List (ByteArray × V) → List (ByteArray × V) → Int
  | [], [] => 0
  | [], _ :: _ => -1
  | _ :: _, [] => 1
  | (p, x) :: l, (q, y) :: w => if cmpOr (cmpS p q) (x.cmpC y) ≠ 0 then cmpOr (cmpS p q) (x.cmpC y) else cmpM l w
end
theorem V.cmpC_eq (v w : V) : v.cmpC w = if cmpI v.kind w.kind ≠ 0 then cmpI v.kind w.kind else if v.kind = 1 then cmpBo v.b w.b else if v.kind = 2 then cmpI v.n w.n else if v.kind = 3 then cmpS v.s w.s else if v.kind = 4 then cmpL v.l w.l else if v.kind = 5 then cmpM v.m w.m else 0 := by
  cases v; rw [V.cmpC]; rfl
theorem cmpI_eq {a b : Int} : cmpI a b = 0 ↔ a = b := by
  unfold cmpI
  split
  · simp; omega
  · split
    · simp; omega
    · simp; omega
theorem cmpBo_eq {a b : Bool} : cmpBo a b = 0 ↔ a = b := by cases a <;> cases b <;> simp [cmpBo]
theorem cmp_eq_all (n : Nat) : ∀ a b : V, a.size ≤ n → a.good → b.good → (a.cmpC b = 0 ↔ a = b) := by
  induction n with
  | zero => intro v _ h; have := v.size_pos; omega
  | succ n ih =>
    intro a b hn ha hb
    have e := a.size_eq
    have ka := (a.good_eq.1 ha).1
    have kb := (b.good_eq.1 hb).1
    have hL : ∀ l w : List V, sizeL l ≤ n → (∀ x ∈ l, x.good) → (∀ x ∈ w, x.good) → (cmpL l w = 0 ↔ l = w) := by
      intro l
      induction l with
      | nil => intro w _ _ _; cases w <;> simp [cmpL]
      | cons x l ihl =>
        intro w hs h1 h2
        simp only [sizeL] at hs
        cases w with
        | nil => simp [cmpL]
        | cons y w =>
          have i1 := ih x y (by omega) (h1 x (by simp)) (h2 y (by simp))
          have i2 := ihl w (by omega) (fun z hz => h1 z (by simp [hz])) (fun z hz => h2 z (by simp [hz]))
          rw [cmpL]
          split
          · rename_i h
            constructor
            · intro h'; exact absurd h' h
            · intro h'; cases h'; exact absurd (i1.2 rfl) h
          · rename_i h
            obtain rfl := i1.1 (by simpa using h)
            simp [i2]
    have hM : ∀ l w : List (ByteArray × V), sizeM l ≤ n → (∀ p ∈ l, p.2.good) → (∀ p ∈ w, p.2.good) → (cmpM l w = 0 ↔ l = w) := by
      intro l
      induction l with
      | nil => intro w _ _ _; cases w <;> simp [cmpM]
      | cons p l ihl =>
        obtain ⟨p, x⟩ := p
        intro w hs h1 h2
        simp only [sizeM] at hs
        cases w with
        | nil => simp [cmpM]
        | cons q w =>
          obtain ⟨q, y⟩ := q
          have i1 := ih x y (by omega) (h1 (p, x) (by simp)) (h2 (q, y) (by simp))
          have i2 := ihl w (by omega) (fun z hz => h1 z (by simp [hz])) (fun z hz => h2 z (by simp [hz]))
          have i3 : cmpOr (cmpS p q) (x.cmpC y) = 0 ↔ p = q ∧ x = y := by
            unfold cmpOr
            split
            · rename_i h
              constructor
              · intro h'; exact absurd h' h
              · intro h'; exact absurd (cmpS_eq.2 h'.1) h
            · rename_i h
              have := cmpS_eq.1 (show cmpS p q = 0 by simpa using h)
              simp [i1, this]
          rw [cmpM]
          split
          · rename_i h
            constructor
            · intro h'; exact absurd h' h
            · intro h'; cases h'; exact absurd (i3.2 ⟨rfl, rfl⟩) h
          · rename_i h
            obtain ⟨rfl, rfl⟩ := i3.1 (Decidable.not_not.1 h)
            simp [i2]
    have iL := hL a.l b.l (by omega) (fun x hx => good_l ha hx) (fun x hx => good_l hb hx)
    have iM := hM a.m b.m (by omega) (fun x hx => good_m ha hx) (fun x hx => good_m hb hx)
    rw [V.cmpC_eq, V.ext_iff']
    simp only [kbad, Bool.or_eq_false_iff, Bool.and_eq_false_iff, decide_eq_false_iff_not, Decidable.not_not, Nat.not_lt, Nat.le_zero, List.length_eq_zero_iff] at ka kb
    obtain ⟨⟨⟨⟨⟨⟨a0, a00⟩, a1⟩, a2⟩, a3⟩, a4⟩, a5⟩ := ka
    obtain ⟨⟨⟨⟨⟨⟨b0, b00⟩, b1⟩, b2⟩, b3⟩, b4⟩, b5⟩ := kb
    split
    · rename_i h
      constructor
      · intro h'; exact absurd h' h
      · rintro ⟨h', _⟩; exact absurd (cmpI_eq.2 h') h
    · rename_i h
      have hk : a.kind = b.kind := cmpI_eq.1 (by simpa using h)
      have := @cmpBo_eq a.b b.b
      have := @cmpI_eq a.n b.n
      have := @cmpS_eq a.s b.s
      rw [← hk] at b1 b2 b3 b4 b5 ⊢
      have hkk : a.kind = 0 ∨ a.kind = 1 ∨ a.kind = 2 ∨ a.kind = 3 ∨ a.kind = 4 ∨ a.kind = 5 := by omega
      clear ih hL hM hn e ha hb h hk b0 b00 a0 a00
      rcases hkk with h0 | h0 | h0 | h0 | h0 | h0 <;> simp [h0] at a1 a2 a3 a4 a5 b1 b2 b3 b4 b5 ⊢ <;> simp [*]
theorem V.cmp_eq {a b : V} (ha : a.good) (hb : b.good) : a.cmpC b = 0 ↔ a = b := cmp_eq_all a.size a b (Nat.le_refl _) ha hb
theorem V.cmp_same {a b : V} (ha : a.good) (hb : b.good) : decide (a.cmpC b = 0) = a.sameB b := by
  rw [V.sameB, decide_eq_decide]; exact V.cmp_eq ha hb
end Go.Proofs.YtgcodocajgdmcaaDoor
