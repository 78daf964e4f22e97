/-
  The plain laws of the document's values: what may be, how much one has, leaves, paths, changes. No program in sight.
-/
import Derived.Test.YtgekcnpfflhpkaaGreatDoorTree
namespace Go.Proofs.YtgekcnpfflhpkaaGreatDoor
set_option linter.unusedSimpArgs false
set_option linter.unusedVariables false
open Go.RowKit

/-! texts and keys -/
/-- the first k bytes all do -/
def allTo (p : UInt8 → Bool) (s : ByteArray) (k : Nat) : Prop := ∀ j (h : j < s.size), j < k → p s[j] = true
def allB (p : UInt8 → Bool) (s : ByteArray) : Bool := s.data.toList.all p
theorem allTo_zero (p : UInt8 → Bool) (s : ByteArray) : allTo p s 0 := fun j _ h => by omega
theorem allTo_succ {p : UInt8 → Bool} {s : ByteArray} {k : Nat} (h : allTo p s k) (hk : k < s.size) (hp : p s[k] = true) : allTo p s (k + 1) := by
  intro j hj hjk
  rcases Nat.lt_or_ge j k with h1 | h1
  · exact h j hj h1
  · obtain rfl : j = k := by omega
    exact hp
theorem getElem_data (s : ByteArray) (j : Nat) (h : j < s.size) : s.data.toList[j]'(by simpa using h) = s[j] := rfl
theorem allB_true {p : UInt8 → Bool} {s : ByteArray} (h : allTo p s s.size) : allB p s = true := by
  unfold allB
  rw [List.all_eq_true]
  intro x hx
  obtain ⟨j, hj, rfl⟩ := List.getElem_of_mem hx
  have hj' : j < s.size := by simpa using hj
  exact h j hj' hj'
theorem allB_false {p : UInt8 → Bool} {s : ByteArray} {k : Nat} (hk : k < s.size) (hp : p s[k] = false) : allB p s = false := by
  unfold allB
  rw [List.all_eq_false]
  exact ⟨s[k], List.getElem_mem (l := s.data.toList) (n := k) (by simpa using hk), by rw [hp]; decide⟩

def okT (c : UInt8) : Bool := (decide (32 ≤ c.toNat) && decide (c.toNat ≤ 126)) || c.toNat == 9 || c.toNat == 10
def textB (s : ByteArray) : Bool := allB okT s && decide (s.size ≤ 65536)
def okK (c : UInt8) : Bool := decide (32 ≤ c.toNat) && decide (c.toNat ≤ 126)
def keyB (s : ByteArray) : Bool := allB okK s && (decide (1 ≤ s.size) && decide (s.size ≤ 256))
/-! weight -/
mutual
/-- all that a value has -/
def V.w : V → Nat
  | .mk _ _ _ s l m => 1 + s.size + wL l + wM m
def wL : List V → Nat
  | [] => 0
  | x :: l => x.w + wL l
def wM : List (ByteArray × V) → Nat
  | [] => 0
  | (y, x) :: m => x.w + y.size + wM m
end
mutual
/-- the same as the law's function reckons it: up to a bound -/
def V.wt : V → Nat → Nat
  | .mk _ _ _ s l m, deep => if 40 < deep then 1048576 else if (wtL l (deep + 1) (1 + s.size)).2 then (wtL l (deep + 1) (1 + s.size)).1 else (wtM m (deep + 1) (wtL l (deep + 1) (1 + s.size)).1).1
def wtL : List V → Nat → Nat → Nat × Bool
  | [], _, n => (n, false)
  | x :: l, deep, n => if 6000 < n + x.wt deep then (n + x.wt deep, true) else wtL l deep (n + x.wt deep)
def wtM : List (ByteArray × V) → Nat → Nat → Nat × Bool
  | [], _, n => (n, false)
  | (y, x) :: m, deep, n => if 6000 < n + (x.wt deep + y.size) then (n + (x.wt deep + y.size), true) else wtM m deep (n + (x.wt deep + y.size))
end
theorem V.w_eq (v : V) : v.w = 1 + v.s.size + wL v.l + wM v.m := by cases v; simp [V.w, V.l, V.m, V.s]
theorem V.wt_eq (v : V) (deep : Nat) : v.wt deep = if 40 < deep then 1048576 else if (wtL v.l (deep + 1) (1 + v.s.size)).2 then (wtL v.l (deep + 1) (1 + v.s.size)).1 else (wtM v.m (deep + 1) (wtL v.l (deep + 1) (1 + v.s.size)).1).1 := by
  cases v; rw [V.wt]; rfl
theorem wL_append (a b : List V) : wL (a ++ b) = wL a + wL b := by
  induction a with
  | nil => simp [wL]
  | cons x a ih => simp [wL, ih]; omega

theorem wtL_light (deep : Nat) : ∀ (l : List V) (n : Nat), (∀ x ∈ l, x.wt deep ≤ 6000 → x.wt deep = x.w ∧ x.depth + deep ≤ 41) → (wtL l deep n).1 ≤ 6000 → (wtL l deep n) = (n + wL l, false) ∧ (l = [] ∨ depthL l + deep ≤ 41)
  | [], n, _, h => ⟨rfl, .inl rfl⟩
  | x :: l, n, hx, h => by
    rw [wtL] at h ⊢
    split at h
    · simp at h; omega
    · rename_i hn
      rw [if_neg hn]
      have h1 := hx x (by simp) (by omega)
      obtain ⟨h2, h3⟩ := wtL_light deep l _ (fun y hy => hx y (by simp [hy])) h
      refine ⟨by rw [h2, h1.1, wL]; simp; omega, .inr ?_⟩
      rw [depthL]
      rcases h3 with rfl | h3
      · simp [depthL]; omega
      · omega
theorem wtM_light (deep : Nat) : ∀ (l : List (ByteArray × V)) (n : Nat), (∀ p ∈ l, p.2.wt deep ≤ 6000 → p.2.wt deep = p.2.w ∧ p.2.depth + deep ≤ 41) → (wtM l deep n).1 ≤ 6000 → (wtM l deep n) = (n + wM l, false) ∧ (l = [] ∨ depthM l + deep ≤ 41)
  | [], n, _, h => ⟨rfl, .inl rfl⟩
  | (y, x) :: l, n, hx, h => by
    rw [wtM] at h ⊢
    split at h
    · simp at h; omega
    · rename_i hn
      rw [if_neg hn]
      have h1 := hx (y, x) (by simp) (by simp; omega)
      obtain ⟨h2, h3⟩ := wtM_light deep l _ (fun y hy => hx y (by simp [hy])) h
      simp only at h1
      refine ⟨by rw [h2, h1.1, wM]; simp; omega, .inr ?_⟩
      rw [depthM]
      rcases h3 with rfl | h3
      · simp [depthM]; omega
      · omega
theorem mem_size {l : List V} {x : V} (h : x ∈ l) : x.size ≤ sizeL l := by
  induction l with
  | nil => cases h
  | cons a l ih =>
    simp only [sizeL]
    rcases List.mem_cons.1 h with rfl | h
    · omega
    · have := ih h; omega
theorem mem_sizeM {l : List (ByteArray × V)} {p : ByteArray × V} (h : p ∈ l) : p.2.size ≤ sizeM l := by
  induction l with
  | nil => cases h
  | cons a l ih =>
    obtain ⟨k, a⟩ := a
    simp only [sizeM]
    rcases List.mem_cons.1 h with rfl | h
    · simp
    · have := ih h; omega
theorem wt_light_all (n : Nat) : ∀ (v : V) (deep : Nat), v.size ≤ n → v.wt deep ≤ 6000 → v.wt deep = v.w ∧ v.depth + deep ≤ 41 := by
  induction n with
  | zero => intro v deep h; have := v.size_pos; omega
  | succ n ih =>
    intro v deep hs h
    have e1 := v.size_eq
    rw [V.wt_eq] at h ⊢
    split at h
    · omega
    · rename_i hd
      rw [if_neg hd]
      have hL : ∀ x ∈ v.l, x.wt (deep + 1) ≤ 6000 → x.wt (deep + 1) = x.w ∧ x.depth + (deep + 1) ≤ 41 := fun x hx => ih x (deep + 1) (by have := mem_size hx; omega)
      have hM : ∀ p ∈ v.m, p.2.wt (deep + 1) ≤ 6000 → p.2.wt (deep + 1) = p.2.w ∧ p.2.depth + (deep + 1) ≤ 41 := fun p hp => ih p.2 (deep + 1) (by have := mem_sizeM hp; omega)
      have h1 : (wtL v.l (deep + 1) (1 + v.s.size)).1 ≤ 6000 ∧ (wtL v.l (deep + 1) (1 + v.s.size)).2 = false := by
        split at h
        · rename_i h2
          have := (wtL_light _ _ _ hL h).1
          rw [this] at h2; cases h2
        · rename_i h2
          refine ⟨?_, by simpa using h2⟩
          have mono : ∀ (l : List (ByteArray × V)) (n : Nat), n ≤ (wtM l (deep + 1) n).1 := by
            intro l
            induction l with
            | nil => intro n; simp [wtM]
            | cons p l ihl =>
              intro n
              obtain ⟨y, x⟩ := p
              rw [wtM]
              split
              · simp only []; omega
              · have := ihl (n + (x.wt (deep + 1) + y.size)); omega
          have := mono v.m (wtL v.l (deep + 1) (1 + v.s.size)).1
          omega
      obtain ⟨h2, h3⟩ := wtL_light _ _ _ hL h1.1
      rw [if_neg (by rw [h1.2]; decide)] at h ⊢
      obtain ⟨h4, h5⟩ := wtM_light _ _ _ hM h
      rw [h2] at h4 ⊢
      rw [h4, V.w_eq, V.depth_eq]
      refine ⟨rfl, ?_⟩
      have e3 : v.l = [] → depthL v.l = 0 := fun e => by rw [e]; rfl
      have e4 : v.m = [] → depthM v.m = 0 := fun e => by rw [e]; rfl
      rcases h3 with h3 | h3 <;> rcases h5 with h5 | h5 <;> (first | have := e3 h3 | skip) <;> (first | have := e4 h5 | skip) <;> omega
theorem V.light {v : V} {deep : Nat} (h : v.wt deep ≤ 6000) : v.wt deep = v.w ∧ v.depth + deep ≤ 41 := wt_light_all v.size v deep (Nat.le_refl _) h

theorem wtL_le (deep b : Nat) : ∀ (l : List V) (n : Nat), (∀ x ∈ l, x.wt deep ≤ b) → (wtL l deep n).1 ≤ max n 6000 + b ∧ ((wtL l deep n).2 = false → (wtL l deep n).1 ≤ max n 6000)
  | [], n, _ => ⟨by simp [wtL]; omega, fun _ => by simp [wtL]; omega⟩
  | x :: l, n, hx => by
    have h1 := hx x (by simp)
    rw [wtL]
    split
    · exact ⟨by simp; omega, fun h => by cases h⟩
    · obtain ⟨h2, h3⟩ := wtL_le deep b l (n + x.wt deep) (fun y hy => hx y (by simp [hy]))
      exact ⟨by omega, fun h => by have := h3 h; omega⟩
theorem wtM_le (deep b c : Nat) : ∀ (l : List (ByteArray × V)) (n : Nat), (∀ p ∈ l, p.2.wt deep ≤ b ∧ p.1.size ≤ c) → (wtM l deep n).1 ≤ max n 6000 + b + c
  | [], n, _ => by simp [wtM]; omega
  | (y, x) :: l, n, hx => by
    have h1 := hx (y, x) (by simp)
    simp only at h1
    rw [wtM]
    split
    · simp; omega
    · have := wtM_le deep b c l (n + (x.wt deep + y.size)) (fun p hp => hx p (by simp [hp]))
      omega
def V.light_ (v : V) : Bool := decide (v.wt 0 ≤ 6000)
theorem V.light_iff {v : V} (h : v.light_ = true) : v.w ≤ 6000 ∧ v.depth ≤ 41 := by
  have h1 : v.wt 0 ≤ 6000 := by simpa [V.light_] using h
  have h2 := V.light h1
  exact ⟨by omega, by omega⟩

/-! what may be -/
/-- a kind's own parts alone are told -/
def kbad (kind : Int) (b : Bool) (n : Int) (s : ByteArray) (l m : Nat) : Bool :=
  decide (kind < 0) || decide (5 < kind) || (decide (kind ≠ 1) && b) || (decide (kind ≠ 2) && decide (n ≠ 0)) || (decide (kind ≠ 3) && decide (s ≠ noBytes)) || (decide (kind ≠ 4) && decide (0 < l)) || (decide (kind ≠ 5) && decide (0 < m))

def risingK : List (ByteArray × V) → Prop
  | [] => True
  | [_] => True
  | p :: q :: m => Op.bytesLess p.1.toList q.1.toList = true ∧ risingK (q :: m)

mutual
/-- may be, but for its size and depth -/
def V.good : V → Prop
  | .mk k b n s l m => kbad k b n s l.length m.length = false ∧ textB s = true ∧ goodL l ∧ goodM m ∧ risingK m
def goodL : List V → Prop
  | [] => True
  | x :: l => x.good ∧ goodL l
def goodM : List (ByteArray × V) → Prop
  | [] => True
  | (y, x) :: m => keyB y = true ∧ x.good ∧ goodM m
end
theorem goodL_iff (l : List V) : goodL l ↔ ∀ x ∈ l, x.good := by
  induction l with
  | nil => simp [goodL]
  | cons x l ih => simp [goodL, ih]
theorem goodM_iff (m : List (ByteArray × V)) : goodM m ↔ ∀ p ∈ m, keyB p.1 = true ∧ p.2.good := by
  induction m with
  | nil => simp [goodM]
  | cons p m ih => obtain ⟨y, x⟩ := p; rw [goodM, ih, List.forall_mem_cons]; simp only [and_assoc]
theorem risingK_of {m : List (ByteArray × V)} (h : ∀ i p q, m[i]? = some p → m[i + 1]? = some q → Op.bytesLess p.1.toList q.1.toList = true) : risingK m := by
  induction m with
  | nil => trivial
  | cons p m ih =>
    cases m with
    | nil => trivial
    | cons q m => exact ⟨h 0 p q rfl rfl, ih fun i a b ha hb => h (i + 1) a b (by simpa using ha) (by simpa using hb)⟩
theorem V.good_eq (v : V) : v.good ↔ kbad v.kind v.b v.n v.s v.l.length v.m.length = false ∧ textB v.s = true ∧ goodL v.l ∧ goodM v.m ∧ risingK v.m := by
  cases v; rw [V.good]; rfl

theorem str_ne {s : ByteArray} (h : ¬ s = ⟨#[]⟩) : (s.toList == []) = false := by
  rw [ByteArray.toList_eq]
  rcases s with ⟨⟨l⟩⟩
  cases l with
  | nil => exact absurd rfl h
  | cons a l => rfl
theorem bytes_tri : ∀ {a b : List UInt8}, Op.bytesLess a b = false → (a == b) = false → Op.bytesLess b a = true
  | [], [], _, h => by simp at h
  | [], _ :: _, h, _ => by simp [Op.bytesLess] at h
  | _ :: _, [], _, _ => by simp [Op.bytesLess]
  | x :: a, y :: b, h, h2 => by
    simp only [Op.bytesLess, Bool.or_eq_false_iff, decide_eq_false_iff_not, Bool.and_eq_false_iff, beq_eq_false_iff_ne, UInt8.not_lt] at h
    simp only [Op.bytesLess, Bool.or_eq_true, decide_eq_true_eq, Bool.and_eq_true, beq_iff_eq]
    by_cases e : x = y
    · subst e
      exact .inr ⟨rfl, bytes_tri (by simpa using h.2) (by simpa using h2)⟩
    · exact .inl (UInt8.lt_of_le_of_ne h.1 fun e' => e e'.symm)

theorem good_more {l : List V} {k : Nat} {x : V} (h : ∀ j x, j < k → l[j]? = some x → x.good) (hg : l[k]? = some x) (hx : x.good) : ∀ j x, j < k + 1 → l[j]? = some x → x.good := by
  intro j y hj hy
  rcases Nat.lt_or_ge j k with h1 | h1
  · exact h j y h1 hy
  · obtain rfl : j = k := by omega
    rw [hg] at hy
    cases hy
    exact hx
theorem good_all {l : List V} (h : ∀ j x, j < l.length → l[j]? = some x → x.good) : goodL l := by
  rw [goodL_iff]
  intro x hx
  obtain ⟨j, hj⟩ := List.getElem?_of_mem hx
  exact h j x (List.getElem?_eq_some_iff.1 hj).1 hj
theorem goodM_more {m : List (ByteArray × V)} {k : Nat} {p : ByteArray × V} (h : ∀ j p, j < k → m[j]? = some p → keyB p.1 = true ∧ p.2.good) (hg : m[k]? = some p) (hx : keyB p.1 = true ∧ p.2.good) : ∀ j p, j < k + 1 → m[j]? = some p → keyB p.1 = true ∧ p.2.good := by
  intro j y hj hy
  rcases Nat.lt_or_ge j k with h1 | h1
  · exact h j y h1 hy
  · obtain rfl : j = k := by omega
    rw [hg] at hy
    cases hy
    exact hx
theorem goodM_all {m : List (ByteArray × V)} (h : ∀ j p, j < m.length → m[j]? = some p → keyB p.1 = true ∧ p.2.good) : goodM m := by
  rw [goodM_iff]
  intro x hx
  obtain ⟨j, hj⟩ := List.getElem?_of_mem hx
  exact h j x (List.getElem?_eq_some_iff.1 hj).1 hj
theorem rise_more {m : List (ByteArray × V)} {k : Nat} {p q : ByteArray × V} (h : ∀ j p q, j + 1 < k + 1 → m[j]? = some p → m[j + 1]? = some q → Op.bytesLess p.1.toList q.1.toList = true) (hp : m[k]? = some p) (hq : m[k + 1]? = some q) (hx : Op.bytesLess p.1.toList q.1.toList = true) :
    ∀ j p q, j + 1 < k + 1 + 1 → m[j]? = some p → m[j + 1]? = some q → Op.bytesLess p.1.toList q.1.toList = true := by
  intro j a c hj ha hc
  rcases Nat.lt_or_ge j k with h1 | h1
  · exact h j a c (by omega) ha hc
  · obtain rfl : j = k := by omega
    rw [hp] at ha
    rw [hq] at hc
    cases ha
    cases hc
    exact hx
theorem size_le_w_all (n : Nat) : (∀ v : V, v.size ≤ n → v.size ≤ v.w) ∧ (∀ l : List V, sizeL l ≤ n → sizeL l ≤ wL l) ∧ ∀ m : List (ByteArray × V), sizeM m ≤ n → sizeM m ≤ wM m := by
  induction n with
  | zero =>
    refine ⟨fun v h => ?_, fun l h => by omega, fun m h => by omega⟩
    have := v.size_pos; omega
  | succ n ih =>
    have hv : ∀ v : V, v.size ≤ n + 1 → v.size ≤ v.w := by
      intro v h
      have e1 := v.size_eq
      have e2 := v.w_eq
      have h1 := ih.2.1 v.l (by omega)
      have h2 := ih.2.2 v.m (by omega)
      omega
    refine ⟨hv, fun l h => ?_, fun m h => ?_⟩
    · induction l with
      | nil => simp [sizeL]
      | cons x l ihl =>
        simp only [sizeL, wL] at h ⊢
        have := hv x (by omega)
        have := ihl (by omega)
        omega
    · induction m with
      | nil => simp [sizeM]
      | cons x m ihl =>
        obtain ⟨k, x⟩ := x
        simp only [sizeM, wM] at h ⊢
        have := hv x (by omega)
        have := ihl (by omega)
        omega
theorem V.size_le_w (v : V) : v.size ≤ v.w := (size_le_w_all v.size).1 v (Nat.le_refl _)
theorem V.light_size {v : V} (h : v.light_ = true) : v.size ≤ 6000 := Nat.le_trans v.size_le_w (V.light_iff h).1

/-- may be, and is small -/
def V.fine (v : V) : Prop := v.light_ = true ∧ v.good ∧ v.size ≤ 4096 ∧ v.depth ≤ 16
theorem fine_more {l : List V} {k : Nat} {x : V} (h : ∀ j x, j < k → l[j]? = some x → x.fine) (hg : l[k]? = some x) (hx : x.fine) : ∀ j x, j < k + 1 → l[j]? = some x → x.fine := by
  intro j y hj hy
  rcases Nat.lt_or_ge j k with h1 | h1
  · exact h j y h1 hy
  · obtain rfl : j = k := by omega
    rw [hg] at hy
    cases hy
    exact hx
theorem fine_all {l : List V} (h : ∀ j x, j < l.length → l[j]? = some x → x.fine) : ∀ x ∈ l, x.fine := by
  intro x hx
  obtain ⟨j, hj⟩ := List.getElem?_of_mem hx
  exact h j x (List.getElem?_eq_some_iff.1 hj).1 hj
/-! what stands under a key -/
/-- the value under a key -/
def mfind (k : ByteArray) : List (ByteArray × V) → Option V
  | [] => none
  | (y, x) :: m => if y = k then some x else mfind k m
theorem mfind_at {k : ByteArray} : ∀ {m : List (ByteArray × V)} {i : Nat} {x : V}, (∀ j p, j < i → m[j]? = some p → p.1 ≠ k) → m[i]? = some (k, x) → mfind k m = some x
  | [], _, _, _, h => by simp at h
  | (y, v) :: m, 0, x, _, h => by
    simp at h
    obtain ⟨rfl, rfl⟩ := h
    rw [mfind, if_pos rfl]
  | (y, v) :: m, i + 1, x, hn, h => by
    rw [mfind, if_neg (hn 0 (y, v) (by omega) rfl)]
    exact mfind_at (i := i) (fun j p hj hp => hn (j + 1) p (by omega) (by simpa using hp)) (by simpa using h)
theorem mfind_none {k : ByteArray} : ∀ {m : List (ByteArray × V)}, (∀ j p, j < m.length → m[j]? = some p → p.1 ≠ k) → mfind k m = none
  | [], _ => rfl
  | (y, v) :: m, hn => by
    rw [mfind, if_neg (hn 0 (y, v) (by simp) rfl)]
    exact mfind_none fun j p hj hp => hn (j + 1) p (by simp; omega) (by simpa using hp)
theorem ne_more {m : List (ByteArray × V)} {k : Nat} {q : ByteArray × V} {key : ByteArray} (h : ∀ j p, j < k → m[j]? = some p → p.1 ≠ key) (hg : m[k]? = some q) (hx : q.1 ≠ key) : ∀ j p, j < k + 1 → m[j]? = some p → p.1 ≠ key := by
  intro j y hj hy
  rcases Nat.lt_or_ge j k with h1 | h1
  · exact h j y h1 hy
  · obtain rfl : j = k := by omega
    rw [hg] at hy
    cases hy
    exact hx
/-! leaves, paths, changes -/
theorem bl_irrefl : ∀ a : List UInt8, Op.bytesLess a a = false
  | [] => rfl
  | x :: a => by simp [Op.bytesLess, bl_irrefl a, UInt8.lt_irrefl]
theorem bl_trans : ∀ {a b c : List UInt8}, Op.bytesLess a b = true → Op.bytesLess b c = true → Op.bytesLess a c = true
  | [], _, [], _, h2 => by cases ‹List UInt8› <;> simp [Op.bytesLess] at h2
  | [], _, _ :: _, _, _ => rfl
  | _ :: _, [], _, h, _ => by simp [Op.bytesLess] at h
  | _ :: _, _ :: _, [], _, h => by simp [Op.bytesLess] at h
  | x :: a, y :: b, z :: c, h, k => by
    simp only [Op.bytesLess, Bool.or_eq_true, decide_eq_true_eq, Bool.and_eq_true, beq_iff_eq] at h k ⊢
    rcases h with h | ⟨rfl, h⟩
    · rcases k with k | ⟨rfl, k⟩
      · exact .inl (UInt8.lt_trans h k)
      · exact .inl h
    · rcases k with k | ⟨rfl, k⟩
      · exact .inl k
      · exact .inr ⟨rfl, bl_trans h k⟩
def klt (a b : ByteArray) : Prop := Op.bytesLess a.toList b.toList = true
theorem klt_ne {a b : ByteArray} (h : klt a b) : a ≠ b := by
  rintro rfl
  unfold klt at h
  rw [bl_irrefl] at h
  cases h
theorem rises_all : ∀ {m : List (ByteArray × V)}, risingK m → m.Pairwise (fun p q => klt p.1 q.1)
  | [], _ => List.Pairwise.nil
  | [_], _ => List.pairwise_singleton _ _
  | p :: q :: m, h => by
    have ih := rises_all h.2
    refine List.pairwise_cons.2 ⟨fun r hr => ?_, ih⟩
    rcases List.mem_cons.1 hr with rfl | hr
    · exact h.1
    · exact bl_trans h.1 ((List.pairwise_cons.1 ih).1 r hr)
theorem rises_of_all : ∀ {m : List (ByteArray × V)}, m.Pairwise (fun p q => klt p.1 q.1) → risingK m
  | [], _ => trivial
  | [_], _ => trivial
  | p :: q :: m, h => ⟨(List.pairwise_cons.1 h).1 q (by simp), rises_of_all (List.pairwise_cons.1 h).2⟩
theorem mfind_mem : ∀ {m : List (ByteArray × V)} {y : ByteArray} {x : V}, m.Pairwise (fun p q => klt p.1 q.1) → (y, x) ∈ m → mfind y m = some x
  | (a, v) :: m, y, x, h, hm => by
    rcases List.mem_cons.1 hm with e | hm
    · cases e
      rw [mfind, if_pos rfl]
    · rw [mfind, if_neg (klt_ne ((List.pairwise_cons.1 h).1 _ hm))]
      exact mfind_mem (List.pairwise_cons.1 h).2 hm
theorem mem_of_mfind : ∀ {m : List (ByteArray × V)} {y : ByteArray} {x : V}, mfind y m = some x → (y, x) ∈ m
  | (a, v) :: m, y, x, h => by
    rw [mfind] at h
    split at h
    · rename_i e; cases e; cases h; simp
    · exact List.mem_cons_of_mem _ (mem_of_mfind h)

theorem mem_sizeL : ∀ {l : List V} {x : V}, x ∈ l → x.size ≤ sizeL l
  | y :: l, x, h => by
    rw [sizeL]
    rcases List.mem_cons.1 h with rfl | h
    · omega
    · have := mem_sizeL h; omega
theorem mem_depthM : ∀ {m : List (ByteArray × V)} {p : ByteArray × V}, p ∈ m → p.2.depth ≤ depthM m
  | (y, v) :: m, p, h => by
    rw [depthM]
    rcases List.mem_cons.1 h with rfl | h
    · simp; omega
    · have := mem_depthM h; omega
theorem V.mem_size {v : V} {p : ByteArray × V} (h : p ∈ v.m) : p.2.size < v.size := by
  have := mem_sizeM h; have := v.size_eq; omega
theorem good_m {v : V} (h : v.good) {p : ByteArray × V} (hp : p ∈ v.m) : p.2.good := ((goodM_iff _).1 (v.good_eq.1 h).2.2.2.1 p hp).2
theorem good_l {v : V} (h : v.good) {x : V} (hp : x ∈ v.l) : x.good := (goodL_iff _).1 (v.good_eq.1 h).2.2.1 x hp
theorem good_rises {v : V} (h : v.good) : v.m.Pairwise (fun p q => klt p.1 q.1) := rises_all (v.good_eq.1 h).2.2.2.2
theorem good_kind {v : V} (h : v.good) (hm : v.m ≠ []) : v.kind = 5 := by
  have h1 := (v.good_eq.1 h).1
  have h2 : 0 < v.m.length := List.length_pos_iff.2 hm
  simp [kbad, h2] at h1
  omega

abbrev Path := List ByteArray
mutual
/-- all leaves of a value, in order -/
def V.leaves : V → List (Path × V)
  | .mk k b n s l m => if m.isEmpty then [([], .mk k b n s l m)] else leavesM m
def leavesM : List (ByteArray × V) → List (Path × V)
  | [] => []
  | (y, x) :: m => x.leaves.map (fun q => (y :: q.1, q.2)) ++ leavesM m
end
theorem V.leaves_eq (v : V) : v.leaves = if v.m.isEmpty then [([], v)] else leavesM v.m := by cases v; rw [V.leaves]; rfl
theorem leavesM_append (a b : List (ByteArray × V)) : leavesM (a ++ b) = leavesM a ++ leavesM b := by
  induction a with
  | nil => simp [leavesM]
  | cons p a ih => obtain ⟨y, x⟩ := p; simp [leavesM, ih]
theorem leavesM_take {m : List (ByteArray × V)} {k : Nat} {y : ByteArray} {x : V} (h : m[k]? = some (y, x)) : leavesM (m.take (k + 1)) = leavesM (m.take k) ++ x.leaves.map (fun q => (y :: q.1, q.2)) := by
  rw [take_snoc h, leavesM_append]; simp [leavesM]
theorem mem_leavesM : ∀ {m : List (ByteArray × V)} {q : Path × V}, q ∈ leavesM m ↔ ∃ p ∈ m, ∃ r ∈ p.2.leaves, q = (p.1 :: r.1, r.2)
  | [], q => by simp [leavesM]
  | (y, x) :: m, q => by
    rw [leavesM, List.mem_append, mem_leavesM, List.mem_map]
    constructor
    · rintro (⟨r, hr, e⟩ | ⟨p, hp, r, hr, e⟩)
      · exact ⟨(y, x), by simp, r, hr, e.symm⟩
      · exact ⟨p, by simp [hp], r, hr, e⟩
    · rintro ⟨p, hp, r, hr, e⟩
      rcases List.mem_cons.1 hp with rfl | hp
      · exact .inl ⟨r, hr, e.symm⟩
      · exact .inr ⟨p, hp, r, hr, e⟩
theorem leaves_len_all (n : Nat) : (∀ v : V, v.size ≤ n → v.leaves.length ≤ v.size ∧ ∀ q ∈ v.leaves, q.1.length < v.depth ∧ q.2.size ≤ v.size) := by
  induction n with
  | zero => intro v h; have := v.size_pos; omega
  | succ n ih =>
    intro v h
    have e1 := v.size_eq
    have e2 := v.depth_eq
    rw [V.leaves_eq]
    split
    · refine ⟨by simp; omega, fun q hq => ?_⟩
      simp at hq
      subst hq
      exact ⟨by simp; omega, by simp⟩
    · refine ⟨?_, fun q hq => ?_⟩
      · have key : ∀ m : List (ByteArray × V), (∀ p ∈ m, p.2.size ≤ n) → (leavesM m).length ≤ sizeM m := by
          intro m
          induction m with
          | nil => intro _; simp [leavesM]
          | cons p m ihm =>
            intro hp
            obtain ⟨y, x⟩ := p
            have h1 := (ih x (hp (y, x) (by simp))).1
            have h2 := ihm fun p hp' => hp p (by simp [hp'])
            simp [leavesM, sizeM]
            omega
        have := key v.m fun p hp => by have := V.mem_size hp; omega
        omega
      · obtain ⟨p, hp, r, hr, rfl⟩ := mem_leavesM.1 hq
        have h1 := V.mem_size hp
        have h2 := (ih p.2 (by omega)).2 r hr
        have h3 := mem_depthM hp
        exact ⟨by simp; omega, by simp; omega⟩
theorem V.leaves_len (v : V) : v.leaves.length ≤ v.size := (leaves_len_all v.size v (Nat.le_refl _)).1
theorem V.leaf_len {v : V} {q : Path × V} (h : q ∈ v.leaves) : q.1.length < v.depth ∧ q.2.size ≤ v.size := (leaves_len_all v.size v (Nat.le_refl _)).2 q h

/-- what stands at a path -/
def V.get : Path → V → Option V
  | [], v => some v
  | s :: l, v => match mfind s v.m with
    | none => none
    | some x => V.get l x
/-- one path begins as another one does -/
def begins : Path → Path → Bool
  | _, [] => true
  | [], _ :: _ => false
  | a :: l, b :: w => decide (a = b) && begins l w
theorem begins_self : ∀ l : Path, begins l l = true
  | [] => rfl
  | a :: l => by simp [begins, begins_self l]
theorem begins_len : ∀ {l w : Path}, begins l w = true → w.length ≤ l.length
  | _, [], _ => by simp
  | a :: l, b :: w, h => by
    simp [begins] at h
    have := begins_len h.2
    simp; omega
theorem begins_eq : ∀ {l w : Path}, begins l w = true → l.length = w.length → l = w
  | [], [], _, _ => rfl
  | a :: l, [], _, h => by simp at h
  | a :: l, b :: w, h, hl => by
    simp [begins] at h
    rw [h.1, begins_eq h.2 (by simpa using hl)]
theorem get_leaf_all (n : Nat) : ∀ v : V, v.size ≤ n → v.good → ∀ q ∈ v.leaves, v.get q.1 = some q.2 := by
  induction n with
  | zero => intro v h; have := v.size_pos; omega
  | succ n ih =>
    intro v h hg q hq
    rw [V.leaves_eq] at hq
    split at hq
    · simp at hq; subst hq; rfl
    · obtain ⟨p, hp, r, hr, rfl⟩ := mem_leavesM.1 hq
      have h1 := V.mem_size hp
      rw [V.get, mfind_mem (good_rises hg) hp]
      exact ih p.2 (by omega) (good_m hg hp) r hr
theorem V.get_leaf {v : V} (hg : v.good) {q : Path × V} (hq : q ∈ v.leaves) : v.get q.1 = some q.2 := get_leaf_all v.size v (Nat.le_refl _) hg q hq

open Classical in
noncomputable def V.sameB (a b : V) : Bool := decide (a = b)
theorem V.sameB_true {a b : V} : a.sameB b = true ↔ a = b := by simp [V.sameB]
theorem V.sameB_false {a b : V} : a.sameB b = false ↔ a ≠ b := by simp [V.sameB]
noncomputable def chg1 (live : V) (p : Path × V) : Option (Int × Path) := match live.get p.1 with
  | none => some (1, p.1)
  | some y => if y.sameB p.2 then none else some (2, p.1)
def owned (ws : List (Path × V)) (s : Path) : Bool := ws.any fun x => begins s x.1 || begins x.1 s
def chg3 (ws : List (Path × V)) (p : Path × V) : Option (Int × Path) := if owned ws p.1 then none else some (3, p.1)
noncomputable def chgA (live : V) (l : List (Path × V)) : List (Int × Path) := l.filterMap (chg1 live)
def chgB (ws l : List (Path × V)) : List (Int × Path) := l.filterMap (chg3 ws)
/-- the changes of a value against a manifest -/
noncomputable def changes (live want : V) : List (Int × Path) := chgA live want.leaves ++ chgB want.leaves live.leaves
theorem owned_self {ws : List (Path × V)} {q : Path × V} (h : q ∈ ws) : owned ws q.1 = true := by
  unfold owned
  rw [List.any_eq_true]
  exact ⟨q, h, by simp [begins_self]⟩
theorem changes_self {v : V} (h : v.good) : changes v v = [] := by
  unfold changes chgA chgB
  rw [List.append_eq_nil_iff]
  constructor
  · rw [List.filterMap_eq_nil_iff]
    intro q hq
    have : q.2.sameB q.2 = true := V.sameB_true.2 rfl
    rw [chg1, V.get_leaf h hq]
    simp [this]
  · rw [List.filterMap_eq_nil_iff]
    intro q hq
    simp [chg3, owned_self hq]
theorem chgA_take {live : V} {l : List (Path × V)} {k : Nat} {p : Path × V} (h : l[k]? = some p) : chgA live (l.take (k + 1)) = chgA live (l.take k) ++ (chg1 live p).toList := by
  unfold chgA; rw [take_snoc h, List.filterMap_append]; cases h : chg1 live p <;> simp [h]
theorem chgB_take {ws l : List (Path × V)} {k : Nat} {p : Path × V} (h : l[k]? = some p) : chgB ws (l.take (k + 1)) = chgB ws (l.take k) ++ (chg3 ws p).toList := by
  unfold chgB; rw [take_snoc h, List.filterMap_append]; cases h : chg3 ws p <;> simp [h]

/-! what is wrong, exactly -/
mutual
def V.sb : V → Prop
  | .mk _ _ _ s l m => s.size ≤ 140737488355328 ∧ (l.length ≤ 2000000000000 ∧ m.length ≤ 2000000000000) ∧ sbL l ∧ sbM m
def sbL : List V → Prop
  | [] => True
  | x :: l => x.sb ∧ sbL l
def sbM : List (ByteArray × V) → Prop
  | [] => True
  | (y, x) :: m => y.size ≤ 140737488355328 ∧ x.sb ∧ sbM m
end
theorem sbL_iff (l : List V) : sbL l ↔ ∀ x ∈ l, x.sb := by
  induction l with
  | nil => simp [sbL]
  | cons x l ih => simp [sbL, ih]
theorem sbM_iff (m : List (ByteArray × V)) : sbM m ↔ ∀ p ∈ m, p.1.size ≤ 140737488355328 ∧ p.2.sb := by
  induction m with
  | nil => simp [sbM]
  | cons p m ih => obtain ⟨y, x⟩ := p; rw [sbM, ih, List.forall_mem_cons]; simp only [and_assoc]
theorem V.sb_eq (v : V) : v.sb ↔ v.s.size ≤ 140737488355328 ∧ (v.l.length ≤ 2000000000000 ∧ v.m.length ≤ 2000000000000) ∧ sbL v.l ∧ sbM v.m := by cases v; rw [V.sb]; rfl
theorem sb_l {v : V} (h : v.sb) {k : Nat} {x : V} (hk : v.l[k]? = some x) : x.sb := (sbL_iff _).1 ((V.sb_eq v).1 h).2.2.1 x (List.mem_of_getElem? hk)
theorem sb_m {v : V} (h : v.sb) {k : Nat} {y : ByteArray} {x : V} (hk : v.m[k]? = some (y, x)) : y.size ≤ 140737488355328 ∧ x.sb := (sbM_iff _).1 ((V.sb_eq v).1 h).2.2.2 (y, x) (List.mem_of_getElem? hk)
theorem sb_len {v : V} (h : v.sb) : v.l.length ≤ 2000000000000 ∧ v.m.length ≤ 2000000000000 := ((V.sb_eq v).1 h).2.1
theorem sb_s {v : V} (h : v.sb) : v.s.size ≤ 140737488355328 := ((V.sb_eq v).1 h).1
theorem wt_sb_all (n : Nat) : ∀ (v : V) (k deep : Nat), v.size ≤ n → v.sb → deep + k = 41 → v.wt deep ≤ 1048576 + k * 562949953421312 := by
  induction n with
  | zero => intro v _ _ h; have := v.size_pos; omega
  | succ n ih =>
    intro v k deep hn hs hk
    have h0 := sb_s hs
    have e := v.size_eq
    rw [V.wt_eq]
    split
    · omega
    · rename_i hd
      obtain ⟨k, rfl⟩ : ∃ j, k = j + 1 := ⟨k - 1, by omega⟩
      have hL : ∀ x ∈ v.l, x.wt (deep + 1) ≤ 1048576 + k * 562949953421312 := fun x hx =>
        ih x k _ (by have := mem_size hx; omega) ((sbL_iff _).1 ((V.sb_eq v).1 hs).2.2.1 x hx) (by omega)
      have hM : ∀ p ∈ v.m, p.2.wt (deep + 1) ≤ 1048576 + k * 562949953421312 ∧ p.1.size ≤ 140737488355328 := fun p hp =>
        ⟨ih p.2 k _ (by have := mem_sizeM hp; omega) ((sbM_iff _).1 ((V.sb_eq v).1 hs).2.2.2 p hp).2 (by omega), ((sbM_iff _).1 ((V.sb_eq v).1 hs).2.2.2 p hp).1⟩
      obtain ⟨h4, h5⟩ := wtL_le (deep + 1) _ v.l (1 + v.s.size) hL
      split
      · omega
      · rename_i h6
        have h7 := h5 (by simpa using h6)
        have h8 := wtM_le (deep + 1) _ _ v.m (wtL v.l (deep + 1) (1 + v.s.size)).1 hM
        omega
theorem V.wt_sb {v : V} (h : v.sb) {deep : Nat} (hd : deep ≤ 41) : v.wt deep ≤ 23080948091322368 := by
  obtain ⟨k, hk⟩ : ∃ k, deep + k = 41 := ⟨41 - deep, by omega⟩
  have h1 := wt_sb_all v.size v k deep (Nat.le_refl _) h hk
  have h2 : k ≤ 41 := by omega
  omega
theorem depth_le_size_all (n : Nat) : ∀ v : V, v.size ≤ n → v.depth ≤ v.size := by
  induction n with
  | zero => intro v h; have := v.size_pos; omega
  | succ n ih =>
    intro v hn
    have e1 := v.size_eq
    have hL : ∀ l : List V, sizeL l ≤ n → depthL l ≤ sizeL l := by
      intro l
      induction l with
      | nil => intro _; simp [depthL]
      | cons x l ihl => intro h; simp only [sizeL, depthL] at h ⊢; have := ih x (by omega); have := ihl (by omega); omega
    have hM : ∀ l : List (ByteArray × V), sizeM l ≤ n → depthM l ≤ sizeM l := by
      intro l
      induction l with
      | nil => intro _; simp [depthM]
      | cons x l ihl => obtain ⟨y, x⟩ := x; intro h; simp only [sizeM, depthM] at h ⊢; have := ih x (by omega); have := ihl (by omega); omega
    have := hL v.l (by omega)
    have := hM v.m (by omega)
    rw [V.depth_eq]; omega
theorem V.depth_le_size' (v : V) : v.depth ≤ v.size := depth_le_size_all v.size v (Nat.le_refl _)

theorem drop_at {α : Type} {l : List α} {k : Nat} {x : α} (h : l[k]? = some x) : l.drop k = x :: l.drop (k + 1) := by
  obtain ⟨hk, rfl⟩ := List.getElem?_eq_some_iff.1 h
  exact List.drop_eq_getElem_cons hk
def noRise : Option ByteArray → ByteArray → Bool
  | none, _ => false
  | some z, y => !Op.bytesLess z.toList y.toList
mutual
def V.partsC : V → Int
  | .mk k b n s l m => if kbad k b n s l.length m.length then 8 else if textB s = false then 10 else if partsL l ≠ 0 then partsL l else partsM none m
def partsL : List V → Int
  | [] => 0
  | x :: l => if x.partsC ≠ 0 then x.partsC else partsL l
def partsM : Option ByteArray → List (ByteArray × V) → Int
  | _, [] => 0
  | p, (y, x) :: m => if keyB y = false then 7 else if noRise p y = true then 13 else if x.partsC ≠ 0 then x.partsC else partsM (some y) m
end
theorem V.partsC_eq (v : V) : v.partsC = if kbad v.kind v.b v.n v.s v.l.length v.m.length then 8 else if textB v.s = false then 10 else if partsL v.l ≠ 0 then partsL v.l else partsM none v.m := by
  cases v; rw [V.partsC]; rfl
theorem partsL_drop {l : List V} {k : Nat} {x : V} (h : l[k]? = some x) : partsL (l.drop k) = if x.partsC ≠ 0 then x.partsC else partsL (l.drop (k + 1)) := by
  rw [drop_at h, partsL]
def prevK (m : List (ByteArray × V)) : Nat → Option ByteArray
  | 0 => none
  | k + 1 => m[k]?.map (·.1)
theorem partsM_drop {m : List (ByteArray × V)} {k : Nat} {y : ByteArray} {x : V} (h : m[k]? = some (y, x)) : partsM (prevK m k) (m.drop k) =
    if keyB y = false then 7 else if noRise (prevK m k) y = true then 13 else if x.partsC ≠ 0 then x.partsC else partsM (prevK m (k + 1)) (m.drop (k + 1)) := by
  rw [drop_at h, partsM, prevK, h]; rfl
theorem parts_good_all (n : Nat) : ∀ v : V, v.size ≤ n → v.partsC = 0 → v.good := by
  induction n with
  | zero => intro v h; have := v.size_pos; omega
  | succ n ih =>
    intro v hn h
    have e := v.size_eq
    rw [V.partsC_eq] at h
    rw [V.good_eq]
    split at h
    · cases h
    rename_i h1
    split at h
    · cases h
    rename_i h2
    have hL : ∀ l : List V, sizeL l ≤ n → partsL l = 0 → goodL l := by
      intro l
      induction l with
      | nil => intro _ _; trivial
      | cons x l ihl =>
        intro hs hl
        simp only [sizeL] at hs
        rw [partsL] at hl
        split at hl
        · contradiction
        · rename_i h3
          exact ⟨ih x (by omega) (by simpa using h3), ihl (by omega) hl⟩
    have hM : ∀ (m : List (ByteArray × V)) (p : Option ByteArray), sizeM m ≤ n → partsM p m = 0 → goodM m ∧ risingK m ∧ ∀ z, p = some z → ∀ q, m.head? = some q → Op.bytesLess z.toList q.1.toList = true := by
      intro m
      induction m with
      | nil => intro p _ _; exact ⟨trivial, trivial, by simp⟩
      | cons q m ihm =>
        obtain ⟨y, x⟩ := q
        intro p hs hl
        simp only [sizeM] at hs
        rw [partsM] at hl
        split at hl
        · cases hl
        rename_i h3
        split at hl
        · cases hl
        rename_i h4
        split at hl
        · contradiction
        rename_i h5
        obtain ⟨i1, i2, i3⟩ := ihm (some y) (by omega) hl
        refine ⟨⟨by simpa using h3, ih x (by omega) (by simpa using h5), i1⟩, ?_, ?_⟩
        · cases m with
          | nil => trivial
          | cons q m => exact ⟨i3 y rfl q rfl, i2⟩
        · rintro z rfl q hq
          simp at hq
          subst hq
          simpa [noRise] using h4
    split at h
    · contradiction
    rename_i h3
    obtain ⟨i1, i2, _⟩ := hM v.m none (by omega) h
    exact ⟨by simpa using h1, by simpa using h2, hL v.l (by omega) (by simpa using h3), i1, i2⟩
theorem V.parts_good {v : V} (h : v.partsC = 0) : v.good := parts_good_all v.size v (Nat.le_refl _) h
def V.checkC (v : V) : Int := if 16 < v.depth then 5 else if 4096 < v.size then 6 else v.partsC
theorem V.check_good {v : V} (h : v.checkC = 0) : v.good ∧ v.size ≤ 4096 ∧ v.depth ≤ 16 := by
  unfold V.checkC at h
  split at h
  · cases h
  split at h
  · cases h
  exact ⟨V.parts_good h, by omega, by omega⟩
def rightB (l : List V) : Bool := l.all fun x => x.light_ && decide (x.checkC = 0)
theorem rightB_fine {l : List V} (h : rightB l = true) : ∀ x ∈ l, x.fine := by
  intro x hx
  have := List.all_eq_true.1 h x hx
  simp only [Bool.and_eq_true, decide_eq_true_eq] at this
  exact ⟨this.1, V.check_good this.2⟩
end Go.Proofs.YtgekcnpfflhpkaaGreatDoor
