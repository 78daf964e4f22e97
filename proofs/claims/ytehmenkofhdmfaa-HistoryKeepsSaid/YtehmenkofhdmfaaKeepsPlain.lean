/-
  HistoryKeeps: the plain law on those that must go and those that are left.
-/
import Derived.Test.YtehmenkofhdmfaaHistI
namespace Go.Proofs.Ytehmenkofhdmfaa
set_option linter.unusedSimpArgs false
set_option linter.unusedVariables false

/-- pending, or the one that stands -/
def spare (b : Option Rec) (r : Rec) : Bool := r.st == 1 || (b.isSome && r.rev == (b.getD Rec.zero).rev)
theorem spare_iff (b : Option Rec) (r : Rec) : spare b r = true ↔ (r.st = 1 ∨ (b.isSome = true ∧ r.rev = (b.getD Rec.zero).rev)) := by simp [spare]

theorem oldFrom_shape (b : Option Rec) (keep : Int) : ∀ (l : List Rec) (left : Int) (out : List Rec), ∃ j : Nat, oldFrom b keep l left out = out ++ (l.filter fun r => !spare b r).take j ∧
    (left - ((l.filter fun r => !spare b r).take j).length ≤ keep ∨ (l.filter fun r => !spare b r).take j = l.filter fun r => !spare b r) := by
  intro l
  induction l with
  | nil => intro left out; exact ⟨0, by simp [oldFrom], .inr (by simp)⟩
  | cons r l ih =>
    intro left out
    rw [oldFrom]
    by_cases h : left ≤ keep
    · rw [if_pos h]
      exact ⟨0, by simp, .inl (by simp; omega)⟩
    · rw [if_neg h]
      by_cases hs : r.st = 1 ∨ (b.isSome = true ∧ r.rev = (b.getD Rec.zero).rev)
      · rw [if_pos hs]
        have : spare b r = true := (spare_iff b r).2 hs
        obtain ⟨j, h1, h2⟩ := ih left out
        exact ⟨j, by rw [h1]; simp [this], by simpa [this] using h2⟩
      · rw [if_neg hs]
        have : spare b r = false := by
          cases hc : spare b r
          · rfl
          · exact absurd ((spare_iff b r).1 hc) hs
        obtain ⟨j, h1, h2⟩ := ih (left - 1) (out ++ [r])
        refine ⟨j + 1, by rw [h1]; simp [this], ?_⟩
        rcases h2 with h2 | h2
        · left
          simp only [List.filter_cons, this, Bool.not_false, if_true, List.take_succ_cons, List.length_cons]
          omega
        · right
          simp only [List.filter_cons, this, Bool.not_false, if_true, List.take_succ_cons, h2]

theorem rising_lt {l : List Rec} : ∀ {p : Int}, risingFrom p l = true → l.Pairwise (fun a b => a.rev < b.rev) ∧ ∀ r ∈ l, p < r.rev := by
  induction l with
  | nil => intro p _; exact ⟨List.Pairwise.nil, fun r hr => by cases hr⟩
  | cons a l ih =>
    intro p hp
    simp only [risingFrom, Bool.and_eq_true, decide_eq_true_eq] at hp
    obtain ⟨h1, h2⟩ := ih hp.2
    refine ⟨List.pairwise_cons.2 ⟨h2, h1⟩, fun r hr => ?_⟩
    rcases List.mem_cons.1 hr with rfl | hr
    · omega
    · have := h2 r hr; omega
theorem rising_pair {l : List Rec} (h : rising l = true) : l.Pairwise (fun a b => a.rev < b.rev) := by
  simp only [rising, Bool.and_eq_true] at h
  exact (rising_lt h.1).1

def gone (O : List Rec) (r : Rec) : Bool := (O.map (·.rev)).contains r.rev
theorem gone_iff (O : List Rec) (r : Rec) : gone O r = true ↔ ∃ x ∈ O, x.rev = r.rev := by simp [gone]
theorem gone_sub {O l : List Rec} (hs : O.Sublist l) (hp : l.Pairwise (fun a b => a.rev < b.rev)) {r : Rec} (hr : r ∈ l) : gone O r = true ↔ r ∈ O := by
  rw [gone_iff]
  constructor
  · rintro ⟨x, hx, e⟩
    have hxl := hs.subset hx
    have : x = r := by
      clear hs hx
      induction l with
      | nil => cases hr
      | cons a l ih =>
        obtain ⟨h1, h2⟩ := List.pairwise_cons.1 hp
        rcases List.mem_cons.1 hr with h3 | h3
        · rcases List.mem_cons.1 hxl with h4 | h4
          · rw [h3, h4]
          · have := h1 x h4; rw [h3] at e; omega
        · rcases List.mem_cons.1 hxl with h4 | h4
          · have := h1 r h3; rw [h4] at e; omega
          · exact ih h2 h3 h4
    exact this ▸ hx
  · intro h; exact ⟨r, h, rfl⟩
theorem gone_len {O l : List Rec} (hs : O.Sublist l) (hp : l.Pairwise (fun a b => a.rev < b.rev)) : O.length + (l.filter fun r => !gone O r).length = l.length := by
  have h1 : (l.filter fun r => gone O r) = l.filter fun r => gone O r := rfl
  have key : ∀ (O l : List Rec), O.Sublist l → l.Pairwise (fun a b => a.rev < b.rev) → (l.filter fun r => gone O r).length = O.length := by
    intro O l hs
    induction hs with
    | slnil => intro _; rfl
    | @cons O l a hs ih =>
      intro hp
      obtain ⟨g1, g2⟩ := List.pairwise_cons.1 hp
      have : gone O a = false := by
        cases hc : gone O a
        · rfl
        · obtain ⟨x, hx, e⟩ := (gone_iff O a).1 hc
          have := g1 x (hs.subset hx)
          omega
      rw [List.filter_cons, this]
      exact ih g2
    | @cons_cons O l a hs ih =>
      intro hp
      obtain ⟨g1, g2⟩ := List.pairwise_cons.1 hp
      have ha : gone (a :: O) a = true := (gone_iff _ a).2 ⟨a, by simp, rfl⟩
      rw [List.filter_cons, ha, if_pos rfl, List.length_cons, List.length_cons, ← ih g2]
      congr 2
      apply List.filter_congr
      intro r hr
      have hlt := g1 r hr
      rw [Bool.eq_iff_iff, gone_iff, gone_iff]
      constructor
      · rintro ⟨x, hx, e⟩
        rcases List.mem_cons.1 hx with rfl | hx
        · omega
        · exact ⟨x, hx, e⟩
      · rintro ⟨x, hx, e⟩
        exact ⟨x, by simp [hx], e⟩
  have h2 := key O l hs hp
  have h3 : ∀ (l : List Rec) (p : Rec → Bool), (l.filter p).length + (l.filter fun r => !p r).length = l.length := by
    intro l p
    induction l with
    | nil => rfl
    | cons a l ih => cases hp : p a <;> simp [List.filter_cons, hp] <;> omega
  have h4 := h3 l (fun r => gone O r)
  omega

theorem find_filter {α : Type} {p q : α → Bool} {r : α} : ∀ {l : List α}, l.find? p = some r → q r = true → (l.filter q).find? p = some r := by
  intro l
  induction l with
  | nil => intro h; cases h
  | cons a l ih =>
    intro h hq
    rw [List.find?_cons] at h
    cases ha : p a with
    | true =>
      rw [ha] at h
      injection h with h
      subst h
      simp [List.filter_cons, hq, ha]
    | false =>
      rw [ha] at h
      rw [List.filter_cons]
      split
      · rw [List.find?_cons, ha]; exact ih h hq
      · exact ih h hq
theorem base_filter {l : List Rec} {r : Rec} {q : Rec → Bool} (h : base l = some r) (hq : q r = true) : base (l.filter q) = some r := by
  unfold base at *
  obtain ⟨h1, h2⟩ := Option.filter_eq_some_iff.1 h
  have : withS (l.filter q) [2, 3, 5] = some r := by
    unfold withS at *
    rw [← List.filter_reverse]
    exact find_filter h1 hq
  rw [this]
  exact Option.filter_eq_some_iff.2 ⟨rfl, h2⟩

structure Keeps18 (l O L : List Rec) (keep : Int) : Prop where
  nospare : ∀ r ∈ O, spare (base l) r = false
  len : O.length + L.length = l.length
  stands : ∀ r, base l = some r → base L = some r
  few : (L.length : Int) ≤ max keep 1 ∨ (L.filter (spare (base l))).length = L.length

theorem keeps18 {l : List Rec} (h : rising l = true) (keep : Int) : Keeps18 l (old l keep) (l.filter fun r => !gone (old l keep) r) keep := by
  have hp := rising_pair h
  obtain ⟨j, h1, h2⟩ := oldFrom_shape (base l) (max keep 1) l l.length []
  have hO : old l keep = (l.filter fun r => !spare (base l) r).take j := by rw [old, h1]; rfl
  have hs : (old l keep).Sublist l := by rw [hO]; exact (List.take_sublist _ _).trans List.filter_sublist
  have hns : ∀ r ∈ old l keep, spare (base l) r = false := by
    intro r hr
    rw [hO] at hr
    have := (List.mem_filter.1 (List.mem_of_mem_take hr)).2
    simpa using this
  have hlen := gone_len hs hp
  refine ⟨hns, hlen, ?_, ?_⟩
  · intro r hr
    refine base_filter hr ?_
    cases hc : gone (old l keep) r with
    | false => rfl
    | true =>
      obtain ⟨x, hx, e⟩ := (gone_iff _ r).1 hc
      have h3 := hns x hx
      have : spare (base l) x = true := (spare_iff _ x).2 (.inr ⟨by rw [hr]; rfl, by rw [hr]; exact e⟩)
      rw [this] at h3; cases h3
  · rcases h2 with h2 | h2
    · left
      rw [← hO] at h2
      omega
    · right
      rw [← hO] at h2
      congr 1
      rw [List.filter_eq_self]
      intro r hr
      obtain ⟨hr1, hr2⟩ := List.mem_filter.1 hr
      cases hc : spare (base l) r with
      | true => rfl
      | false =>
        have : r ∈ old l keep := by rw [h2]; exact List.mem_filter.2 ⟨hr1, by simp [hc]⟩
        have := (gone_sub hs hp hr1).2 this
        rw [this] at hr2
        cases hr2
end Go.Proofs.Ytehmenkofhdmfaa
