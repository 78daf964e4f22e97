/-
  The texts that the claim wants, one behind the other: part 7.
-/
import Derived.Test.YtgidajjjpeboeaaGreatDoorS6
set_option linter.unusedSimpArgs false
set_option linter.unusedVariables false
namespace Go.Proofs.YtgidajjjpeboeaaGreatDoor
open Go.RowKit
inductive V where
 | mk (kind : Int) (b : Bool) (n : Int) (s : ByteArray) (l : List V) (m : List (ByteArray × V))
def V.kind : V → Int | .mk k _ _ _ _ _ => k
def V.b : V → Bool | .mk _ b _ _ _ _ => b
def V.n : V → Int | .mk _ _ n _ _ _ => n
def V.s : V → ByteArray | .mk _ _ _ s _ _ => s
def V.l : V → List V | .mk _ _ _ _ l _ => l
def V.m : V → List (ByteArray × V) | .mk _ _ _ _ _ m => m
def noBytes : ByteArray := ⟨#[]⟩
def V.null : V := .mk 0 false 0 noBytes [] []
theorem V.ext_iff' {a b : V} : a = b ↔ a.kind = b.kind ∧ a.b = b.b ∧ a.n = b.n ∧ a.s = b.s ∧ a.l = b.l ∧ a.m = b.m := by
 cases a; cases b
 simp [V.kind, V.b, V.n, V.s, V.l, V.m]
instance : Inhabited V := ⟨V.null⟩
section
variable {d d' : Nat} {w w' : World} {B B' : Nat} {cs : List Value} {v : V}
end
mutual
def V.size : V → Nat
 | .mk _ _ _ _ l m => 1 + sizeL l + sizeM m
def sizeL : List V → Nat
 | [] => 0
 | x :: l => x.size + sizeL l
def sizeM : List (ByteArray × V) → Nat
 | [] => 0
 | (_, x) :: m => x.size + sizeM m
end
mutual
def V.depth : V → Nat
 | .mk _ _ _ _ l m => max (depthL l) (depthM m) + 1
def depthL : List V → Nat
 | [] => 0
 | x :: l => max x.depth (depthL l)
def depthM : List (ByteArray × V) → Nat
 | [] => 0
 | (_, x) :: m => max x.depth (depthM m)
end
theorem V.size_eq (v : V) : v.size = 1 + sizeL v.l + sizeM v.m := by cases v; simp [V.size, V.l, V.m]
theorem V.depth_eq (v : V) : v.depth = max (depthL v.l) (depthM v.m) + 1 := by cases v; simp [V.depth, V.l, V.m]
theorem sizeL_append (a b : List V) : sizeL (a ++ b) = sizeL a + sizeL b := by
 induction a with
 | nil => simp [sizeL]
 | cons x a ih => (simp [sizeL, ih] <;> omega)
theorem sizeM_append (a b : List (ByteArray × V)) : sizeM (a ++ b) = sizeM a + sizeM b := by
 induction a with
 | nil => simp [sizeM]
 | cons x a ih => obtain ⟨k, x⟩ := x; (simp [sizeM, ih] <;> omega)
theorem depthL_append (a b : List V) : depthL (a ++ b) = max (depthL a) (depthL b) := by
 induction a with
 | nil => simp [depthL]
 | cons x a ih => (simp [depthL, ih] <;> omega)
theorem depthM_append (a b : List (ByteArray × V)) : depthM (a ++ b) = max (depthM a) (depthM b) := by
 induction a with
 | nil => simp [depthM]
 | cons x a ih => obtain ⟨k, x⟩ := x; (simp [depthM, ih] <;> omega)
theorem take_snoc {α : Type} {l : List α} {k : Nat} {x : α} (h : l[k]? = some x) : l.take (k + 1) = l.take k ++ [x] := by rw [List.take_add_one, h]; rfl
theorem sizeL_take {l : List V} {k : Nat} {x : V} (h : l[k]? = some x) : sizeL (l.take (k + 1)) = sizeL (l.take k) + x.size := by rw [take_snoc h, sizeL_append]; simp [sizeL]
theorem sizeM_take {l : List (ByteArray × V)} {k : Nat} {y : ByteArray} {x : V} (h : l[k]? = some (y, x)) : sizeM (l.take (k + 1)) = sizeM (l.take k) + x.size := by rw [take_snoc h, sizeM_append]; simp [sizeM]
theorem depthL_take {l : List V} {k : Nat} {x : V} (h : l[k]? = some x) : depthL (l.take (k + 1)) = max (depthL (l.take k)) x.depth := by rw [take_snoc h, depthL_append]; simp [depthL]
theorem depthM_take {l : List (ByteArray × V)} {k : Nat} {y : ByteArray} {x : V} (h : l[k]? = some (y, x)) : depthM (l.take (k + 1)) = max (depthM (l.take k)) x.depth := by rw [take_snoc h, depthM_append]; simp [depthM]
theorem sizeL_take_le (l : List V) (k : Nat) : sizeL (l.take k) ≤ sizeL l := by
 have := sizeL_append (l.take k) (l.drop k)
 rw [List.take_append_drop] at this; omega
theorem sizeM_take_le (l : List (ByteArray × V)) (k : Nat) : sizeM (l.take k) ≤ sizeM l := by
 have := sizeM_append (l.take k) (l.drop k)
 rw [List.take_append_drop] at this; omega
theorem depthL_take_le (l : List V) (k : Nat) : depthL (l.take k) ≤ depthL l := by
 have := depthL_append (l.take k) (l.drop k)
 rw [List.take_append_drop] at this; omega
theorem depthM_take_le (l : List (ByteArray × V)) (k : Nat) : depthM (l.take k) ≤ depthM l := by
 have := depthM_append (l.take k) (l.drop k)
 rw [List.take_append_drop] at this; omega
theorem V.size_pos (v : V) : 1 ≤ v.size := by rw [V.size_eq]; omega
theorem len_le_sizeL (l : List V) : l.length ≤ sizeL l := by
 induction l with
 | nil => simp
 | cons x l ih => have := x.size_pos; simp [sizeL]; omega
theorem len_le_sizeM (l : List (ByteArray × V)) : l.length ≤ sizeM l := by
 induction l with
 | nil => simp
 | cons x l ih => obtain ⟨k, x⟩ := x; have := x.size_pos; simp [sizeM]; omega
def allTo (p : UInt8 → Bool) (s : ByteArray) (k : Nat) : Prop := ∀ j (h : j < s.size), j < k → p s[j] = true
def allB (p : UInt8 → Bool) (s : ByteArray) : Bool := s.data.toList.all p
theorem allTo_zero (p : UInt8 → Bool) (s : ByteArray) : allTo p s 0 := fun j _ h => by omega
theorem allTo_succ {p : UInt8 → Bool} {s : ByteArray} {k : Nat} (h : allTo p s k) (hk : k < s.size) (hp : p s[k] = true) : allTo p s (k + 1) := by
 intro j hj hjk
 rcases Nat.lt_or_ge j k with h1 | h1
 ·exact h j hj h1
 ·obtain rfl : j = k := by omega
  exact hp
theorem allB_true {p : UInt8 → Bool} {s : ByteArray} (h : allTo p s s.size) : allB p s = true := by
 unfold allB
 rw [List.all_eq_true]
 intro x hx
 obtain ⟨j, hj, rfl⟩ := List.getElem_of_mem hx
 have hj' : j < s.size := by simpa using hj
 exact h j hj' hj'
theorem allB_false {p : UInt8 → Bool} {s : ByteArray} {k : Nat} (hk : k < s.size) (hp : p s[k] = false) : allB p s = false := by
 unfold allB
 rw [List.all_eq_false]
 exact ⟨s[k], List.getElem_mem (l := s.data.toList) (n := k) (by simpa using hk), by rw [hp]; decide⟩
def okT (c : UInt8) : Bool := (decide (32 ≤ c.toNat) && decide (c.toNat ≤ 126)) || c.toNat == 9 || c.toNat == 10
def textB (s : ByteArray) : Bool := allB okT s && decide (s.size ≤ 65536)
def okK (c : UInt8) : Bool := decide (32 ≤ c.toNat) && decide (c.toNat ≤ 126)
def keyB (s : ByteArray) : Bool := allB okK s && (decide (1 ≤ s.size) && decide (s.size ≤ 256))
mutual
def V.w : V → Nat
 | .mk _ _ _ s l m => 1 + s.size + wL l + wM m
def wL : List V → Nat
 | [] => 0
 | x :: l => x.w + wL l
def wM : List (ByteArray × V) → Nat
 | [] => 0
 | (y, x) :: m => x.w + y.size + wM m
end
mutual
def V.wt : V → Nat → Nat
 | .mk _ _ _ s l m, deep => if 40 < deep then 1048576 else if (wtL l (deep + 1) (1 + s.size)).2 then (wtL l (deep + 1) (1 + s.size)).1 else (wtM m (deep + 1) (wtL l (deep + 1) (1 + s.size)).1).1
def wtL : List V → Nat → Nat → Nat × Bool
 | [], _, n => (n, false)
 | x :: l, deep, n => if 6000 < n + x.wt deep then (n + x.wt deep, true) else wtL l deep (n + x.wt deep)
def wtM : List (ByteArray × V) → Nat → Nat → Nat × Bool
 | [], _, n => (n, false)
 | (y, x) :: m, deep, n => if 6000 < n + (x.wt deep + y.size) then (n + (x.wt deep + y.size), true) else wtM m deep (n + (x.wt deep + y.size))
end
theorem V.w_eq (v : V) : v.w = 1 + v.s.size + wL v.l + wM v.m := by cases v; simp [V.w, V.l, V.m, V.s]
theorem V.wt_eq (v : V) (deep : Nat) : v.wt deep = if 40 < deep then 1048576 else if (wtL v.l (deep + 1) (1 + v.s.size)).2 then (wtL v.l (deep + 1) (1 + v.s.size)).1 else (wtM v.m (deep + 1) (wtL v.l (deep + 1) (1 + v.s.size)).1).1 := by
 cases v; rw [V.wt]; rfl
theorem wtL_light (deep : Nat) : ∀ (l : List V) (n : Nat), (∀ x ∈ l, x.wt deep ≤ 6000 → x.wt deep = x.w ∧ x.depth + deep ≤ 41) → (wtL l deep n).1 ≤ 6000 → (wtL l deep n) = (n + wL l, false) ∧ (l = [] ∨ depthL l + deep ≤ 41)
 | [], n, _, h => ⟨rfl, .inl rfl⟩
 | x :: l, n, hx, h => by
  rw [wtL] at h ⊢
  split at h
  ·simp at h; omega
  ·rename_i hn
   rw [if_neg hn]
   have h1 := hx x (by simp) (by omega)
   obtain ⟨h2, h3⟩ := wtL_light deep l _ (fun y hy => hx y (by simp [hy])) h
   refine ⟨by rw [h2, h1.1, wL]; simp; omega, .inr ?_⟩
   rw [depthL]
   rcases h3 with rfl | h3
   ·simp [depthL]; omega
   ·omega
theorem wtM_light (deep : Nat) : ∀ (l : List (ByteArray × V)) (n : Nat), (∀ p ∈ l, p.2.wt deep ≤ 6000 → p.2.wt deep = p.2.w ∧ p.2.depth + deep ≤ 41) → (wtM l deep n).1 ≤ 6000 → (wtM l deep n) = (n + wM l, false) ∧ (l = [] ∨ depthM l + deep ≤ 41)
 | [], n, _, h => ⟨rfl, .inl rfl⟩
 | (y, x) :: l, n, hx, h => by
  rw [wtM] at h ⊢
  split at h
  ·simp at h; omega
  ·rename_i hn
   rw [if_neg hn]
   have h1 := hx (y, x) (by simp) (by simp; omega)
   obtain ⟨h2, h3⟩ := wtM_light deep l _ (fun y hy => hx y (by simp [hy])) h
   simp only at h1
   refine ⟨by rw [h2, h1.1, wM]; simp; omega, .inr ?_⟩
   rw [depthM]
   rcases h3 with rfl | h3
   ·simp [depthM]; omega
   ·omega
theorem mem_size {l : List V} {x : V} (h : x ∈ l) : x.size ≤ sizeL l := by
 induction l with
 | nil => cases h
 | cons a l ih =>
  simp only [sizeL]
  rcases List.mem_cons.1 h with rfl | h
  ·omega
  ·have := ih h; omega
theorem mem_sizeM {l : List (ByteArray × V)} {p : ByteArray × V} (h : p ∈ l) : p.2.size ≤ sizeM l := by
 induction l with
 | nil => cases h
 | cons a l ih =>
  obtain ⟨k, a⟩ := a
  simp only [sizeM]
  rcases List.mem_cons.1 h with rfl | h
  ·simp
  ·have := ih h; omega
theorem wt_light_all (n : Nat) : ∀ (v : V) (deep : Nat), v.size ≤ n → v.wt deep ≤ 6000 → v.wt deep = v.w ∧ v.depth + deep ≤ 41 := by
 induction n with
 | zero => intro v deep h; have := v.size_pos; omega
 | succ n ih =>
  intro v deep hs h
  have e1 := v.size_eq
  rw [V.wt_eq] at h ⊢
  split at h
  ·omega
  ·rename_i hd
   rw [if_neg hd]
   have hL : ∀ x ∈ v.l, x.wt (deep + 1) ≤ 6000 → x.wt (deep + 1) = x.w ∧ x.depth + (deep + 1) ≤ 41 := fun x hx => ih x (deep + 1) (by have := mem_size hx; omega)
   have hM : ∀ p ∈ v.m, p.2.wt (deep + 1) ≤ 6000 → p.2.wt (deep + 1) = p.2.w ∧ p.2.depth + (deep + 1) ≤ 41 := fun p hp => ih p.2 (deep + 1) (by have := mem_sizeM hp; omega)
   have h1 : (wtL v.l (deep + 1) (1 + v.s.size)).1 ≤ 6000 ∧ (wtL v.l (deep + 1) (1 + v.s.size)).2 = false := by
    split at h
    ·rename_i h2
     have := (wtL_light _ _ _ hL h).1
     rw [this] at h2; cases h2
    ·rename_i h2
     refine ⟨?_, by simpa using h2⟩
     have mono : ∀ (l : List (ByteArray × V)) (n : Nat), n ≤ (wtM l (deep + 1) n).1 := by
      intro l
      induction l with
      | nil => intro n; simp [wtM]
      | cons p l ihl =>
       intro n
       obtain ⟨y, x⟩ := p
       rw [wtM]
       split
       ·simp only []; omega
       ·have := ihl (n + (x.wt (deep + 1) + y.size)); omega
     have := mono v.m (wtL v.l (deep + 1) (1 + v.s.size)).1
     omega
   obtain ⟨h2, h3⟩ := wtL_light _ _ _ hL h1.1
   rw [if_neg (by rw [h1.2]; decide)] at h ⊢
   obtain ⟨h4, h5⟩ := wtM_light _ _ _ hM h
   rw [h2] at h4 ⊢
   rw [h4, V.w_eq, V.depth_eq]
   refine ⟨rfl, ?_⟩
   have e3 : v.l = [] → depthL v.l = 0 := fun e => by rw [e]; rfl
   have e4 : v.m = [] → depthM v.m = 0 := fun e => by rw [e]; rfl
   rcases h3 with h3 | h3 <;> rcases h5 with h5 | h5 <;> (first | have := e3 h3 | skip) <;> (first | have := e4 h5 | skip) <;> omega
theorem V.light {v : V} {deep : Nat} (h : v.wt deep ≤ 6000) : v.wt deep = v.w ∧ v.depth + deep ≤ 41 := wt_light_all v.size v deep (Nat.le_refl _) h
theorem wtL_le (deep b : Nat) : ∀ (l : List V) (n : Nat), (∀ x ∈ l, x.wt deep ≤ b) → (wtL l deep n).1 ≤ max n 6000 + b ∧ ((wtL l deep n).2 = false → (wtL l deep n).1 ≤ max n 6000)
 | [], n, _ => ⟨by simp [wtL]; omega, fun _ => by simp [wtL]; omega⟩
 | x :: l, n, hx => by
  have h1 := hx x (by simp)
  rw [wtL]
  split
  ·exact ⟨by simp; omega, fun h => by cases h⟩
  ·obtain ⟨h2, h3⟩ := wtL_le deep b l (n + x.wt deep) (fun y hy => hx y (by simp [hy]))
   exact ⟨by omega, fun h => by have := h3 h; omega⟩
theorem wtM_le (deep b c : Nat) : ∀ (l : List (ByteArray × V)) (n : Nat), (∀ p ∈ l, p.2.wt deep ≤ b ∧ p.1.size ≤ c) → (wtM l deep n).1 ≤ max n 6000 + b + c
 | [], n, _ => by simp [wtM]; omega
 | (y, x) :: l, n, hx => by
  have h1 := hx (y, x) (by simp)
  simp only at h1
  rw [wtM]
  split
  ·simp; omega
  ·have := wtM_le deep b c l (n + (x.wt deep + y.size)) (fun p hp => hx p (by simp [hp]))
   omega
def V.light_ (v : V) : Bool := decide (v.wt 0 ≤ 6000)
theorem V.light_iff {v : V} (h : v.light_ = true) : v.w ≤ 6000 ∧ v.depth ≤ 41 := by
 have h1 : v.wt 0 ≤ 6000 := by simpa [V.light_] using h
 have h2 := V.light h1
 exact ⟨by omega, by omega⟩
def kbad (kind : Int) (b : Bool) (n : Int) (s : ByteArray) (l m : Nat) : Bool :=
 decide (kind < 0) || decide (5 < kind) || (decide (kind ≠ 1) && b) || (decide (kind ≠ 2) && decide (n ≠ 0)) || (decide (kind ≠ 3) && decide (s ≠ noBytes)) || (decide (kind ≠ 4) && decide (0 < l)) || (decide (kind ≠ 5) && decide (0 < m))
theorem bytes_tri : ∀ {a b : List UInt8}, Op.bytesLess a b = false → (a == b) = false → Op.bytesLess b a = true
 | [], [], _, h => by simp at h
 | [], _ :: _, h, _ => by simp [Op.bytesLess] at h
 | _ :: _, [], _, _ => by simp [Op.bytesLess]
 | x :: a, y :: b, h, h2 => by
  simp only [Op.bytesLess, Bool.or_eq_false_iff, decide_eq_false_iff_not, Bool.and_eq_false_iff, beq_eq_false_iff_ne, UInt8.not_lt] at h
  simp only [Op.bytesLess, Bool.or_eq_true, decide_eq_true_eq, Bool.and_eq_true, beq_iff_eq]
  by_cases e : x = y
  ·subst e
   exact .inr ⟨rfl, bytes_tri (by simpa using h.2) (by simpa using h2)⟩
  ·exact .inl (UInt8.lt_of_le_of_ne h.1 fun e' => e e'.symm)
theorem size_le_w_all (n : Nat) : (∀ v : V, v.size ≤ n → v.size ≤ v.w) ∧ (∀ l : List V, sizeL l ≤ n → sizeL l ≤ wL l) ∧ ∀ m : List (ByteArray × V), sizeM m ≤ n → sizeM m ≤ wM m := by
 induction n with
 | zero =>
  refine ⟨fun v h => ?_, fun l h => by omega, fun m h => by omega⟩
  have := v.size_pos; omega
 | succ n ih =>
  have hv : ∀ v : V, v.size ≤ n + 1 → v.size ≤ v.w := by
   intro v h
   have e1 := v.size_eq
   have e2 := v.w_eq
   have h1 := ih.2.1 v.l (by omega)
   have h2 := ih.2.2 v.m (by omega)
   omega
  refine ⟨hv, fun l h => ?_, fun m h => ?_⟩
  ·induction l with
   | nil => simp [sizeL]
   | cons x l ihl =>
    simp only [sizeL, wL] at h ⊢
    have := hv x (by omega)
    have := ihl (by omega)
    omega
  ·induction m with
   | nil => simp [sizeM]
   | cons x m ihl =>
    obtain ⟨k, x⟩ := x
    simp only [sizeM, wM] at h ⊢
    have := hv x (by omega)
    have := ihl (by omega)
    omega
theorem V.size_le_w (v : V) : v.size ≤ v.w := (size_le_w_all v.size).1 v (Nat.le_refl _)
theorem V.light_size {v : V} (h : v.light_ = true) : v.size ≤ 6000 := Nat.le_trans v.size_le_w (V.light_iff h).1
theorem bl_irrefl : ∀ a : List UInt8, Op.bytesLess a a = false
 | [] => rfl
 | x :: a => by simp [Op.bytesLess, bl_irrefl a, UInt8.lt_irrefl]
theorem bl_trans : ∀ {a b c : List UInt8}, Op.bytesLess a b = true → Op.bytesLess b c = true → Op.bytesLess a c = true
 | [], _, [], _, h2 => by cases ‹List UInt8› <;> simp [Op.bytesLess] at h2
 | [], _, _ :: _, _, _ => rfl
 | _ :: _, [], _, h, _ => by simp [Op.bytesLess] at h
 | _ :: _, _ :: _, [], _, h => by simp [Op.bytesLess] at h
 | x :: a, y :: b, z :: c, h, k => by
  simp only [Op.bytesLess, Bool.or_eq_true, decide_eq_true_eq, Bool.and_eq_true, beq_iff_eq] at h k ⊢
  rcases h with h | ⟨rfl, h⟩
  ·rcases k with k | ⟨rfl, k⟩
   ·exact .inl (UInt8.lt_trans h k)
   ·exact .inl h
  ·rcases k with k | ⟨rfl, k⟩
   ·exact .inl k
   ·exact .inr ⟨rfl, bl_trans h k⟩
def klt (a b : ByteArray) : Prop := Op.bytesLess a.toList b.toList = true
theorem klt_ne {a b : ByteArray} (h : klt a b) : a ≠ b := by
 rintro rfl
 unfold klt at h
 rw [bl_irrefl] at h
 cases h
open Classical in
noncomputable def V.sameB (a b : V) : Bool := decide (a = b)
theorem V.sameB_true {a b : V} : a.sameB b = true ↔ a = b := by simp [V.sameB]
theorem V.sameB_false {a b : V} : a.sameB b = false ↔ a ≠ b := by simp [V.sameB]
mutual
def V.sb : V → Prop
 | .mk _ _ _ s l m => s.size ≤ 140737488355328 ∧ (l.length ≤ 2000000000000 ∧ m.length ≤ 2000000000000) ∧ sbL l ∧ sbM m
def sbL : List V → Prop
 | [] => True
 | x :: l => x.sb ∧ sbL l
def sbM : List (ByteArray × V) → Prop
 | [] => True
 | (y, x) :: m => y.size ≤ 140737488355328 ∧ x.sb ∧ sbM m
end
theorem sbL_iff (l : List V) : sbL l ↔ ∀ x ∈ l, x.sb := by
 induction l with
 | nil => simp [sbL]
 | cons x l ih => simp [sbL, ih]
theorem sbM_iff (m : List (ByteArray × V)) : sbM m ↔ ∀ p ∈ m, p.1.size ≤ 140737488355328 ∧ p.2.sb := by
 induction m with
 | nil => simp [sbM]
 | cons p m ih => obtain ⟨y, x⟩ := p; rw [sbM, ih, List.forall_mem_cons]; simp only [and_assoc]
theorem V.sb_eq (v : V) : v.sb ↔ v.s.size ≤ 140737488355328 ∧ (v.l.length ≤ 2000000000000 ∧ v.m.length ≤ 2000000000000) ∧ sbL v.l ∧ sbM v.m := by cases v; rw [V.sb]; rfl
theorem sb_l {v : V} (h : v.sb) {k : Nat} {x : V} (hk : v.l[k]? = some x) : x.sb := (sbL_iff _).1 ((V.sb_eq v).1 h).2.2.1 x (List.mem_of_getElem? hk)
theorem sb_m {v : V} (h : v.sb) {k : Nat} {y : ByteArray} {x : V} (hk : v.m[k]? = some (y, x)) : y.size ≤ 140737488355328 ∧ x.sb := (sbM_iff _).1 ((V.sb_eq v).1 h).2.2.2 (y, x) (List.mem_of_getElem? hk)
theorem sb_len {v : V} (h : v.sb) : v.l.length ≤ 2000000000000 ∧ v.m.length ≤ 2000000000000 := ((V.sb_eq v).1 h).2.1
theorem sb_s {v : V} (h : v.sb) : v.s.size ≤ 140737488355328 := ((V.sb_eq v).1 h).1
theorem wt_sb_all (n : Nat) : ∀ (v : V) (k deep : Nat), v.size ≤ n → v.sb → deep + k = 41 → v.wt deep ≤ 1048576 + k * 562949953421312 := by
 induction n with
 | zero => intro v _ _ h; have := v.size_pos; omega
 | succ n ih =>
  intro v k deep hn hs hk
  have h0 := sb_s hs
  have e := v.size_eq
  rw [V.wt_eq]
  split
  ·omega
  ·rename_i hd
   obtain ⟨k, rfl⟩ : ∃ j, k = j + 1 := ⟨k - 1, by omega⟩
   have hL : ∀ x ∈ v.l, x.wt (deep + 1) ≤ 1048576 + k * 562949953421312 := fun x hx =>
    ih x k _ (by have := mem_size hx; omega) ((sbL_iff _).1 ((V.sb_eq v).1 hs).2.2.1 x hx) (by omega)
   have hM : ∀ p ∈ v.m, p.2.wt (deep + 1) ≤ 1048576 + k * 562949953421312 ∧ p.1.size ≤ 140737488355328 := fun p hp =>
    ⟨ih p.2 k _ (by have := mem_sizeM hp; omega) ((sbM_iff _).1 ((V.sb_eq v).1 hs).2.2.2 p hp).2 (by omega), ((sbM_iff _).1 ((V.sb_eq v).1 hs).2.2.2 p hp).1⟩
   obtain ⟨h4, h5⟩ := wtL_le (deep + 1) _ v.l (1 + v.s.size) hL
   split
   ·omega
   ·rename_i h6
    have h7 := h5 (by simpa using h6)
    have h8 := wtM_le (deep + 1) _ _ v.m (wtL v.l (deep + 1) (1 + v.s.size)).1 hM
    omega
theorem V.wt_sb {v : V} (h : v.sb) {deep : Nat} (hd : deep ≤ 41) : v.wt deep ≤ 23080948091322368 := by
 obtain ⟨k, hk⟩ : ∃ k, deep + k = 41 := ⟨41 - deep, by omega⟩
 have h1 := wt_sb_all v.size v k deep (Nat.le_refl _) h hk
 have h2 : k ≤ 41 := by omega
 omega
theorem depth_le_size_all (n : Nat) : ∀ v : V, v.size ≤ n → v.depth ≤ v.size := by
 induction n with
 | zero => intro v h; have := v.size_pos; omega
 | succ n ih =>
  intro v hn
  have e1 := v.size_eq
  have hL : ∀ l : List V, sizeL l ≤ n → depthL l ≤ sizeL l := by
   intro l
   induction l with
   | nil => intro _; simp [depthL]
   | cons x l ihl => intro h; simp only [sizeL, depthL] at h ⊢; have := ih x (by omega); have := ihl (by omega); omega
  have hM : ∀ l : List (ByteArray × V), sizeM l ≤ n → depthM l ≤ sizeM l := by
   intro l
   induction l with
   | nil => intro _; simp [depthM]
   | cons x l ihl => obtain ⟨y, x⟩ := x; intro h; simp only [sizeM, depthM] at h ⊢; have := ih x (by omega); have := ihl (by omega); omega
  have := hL v.l (by omega)
  have := hM v.m (by omega)
  rw [V.depth_eq]; omega
theorem V.depth_le_size' (v : V) : v.depth ≤ v.size := depth_le_size_all v.size v (Nat.le_refl _)
theorem drop_at {α : Type} {l : List α} {k : Nat} {x : α} (h : l[k]? = some x) : l.drop k = x :: l.drop (k + 1) := by
 obtain ⟨hk, rfl⟩ := List.getElem?_eq_some_iff.1 h
 exact List.drop_eq_getElem_cons hk
def noRise : Option ByteArray → ByteArray → Bool
 | none, _ => false
 | some z, y => !Op.bytesLess z.toList y.toList
mutual
def V.partsC : V → Int
 | .mk k b n s l m => if kbad k b n s l.length m.length then 8 else if textB s = false then 10 else if partsL l ≠ 0 then partsL l else partsM none m
def partsL : List V → Int
 | [] => 0
 | x :: l => if x.partsC ≠ 0 then x.partsC else partsL l
def partsM : Option ByteArray → List (ByteArray × V) → Int
 | _, [] => 0
 | p, (y, x) :: m => if keyB y = false then 7 else if noRise p y = true then 13 else if x.partsC ≠ 0 then x.partsC else partsM (some y) m
end
theorem V.partsC_eq (v : V) : v.partsC = if kbad v.kind v.b v.n v.s v.l.length v.m.length then 8 else if textB v.s = false then 10 else if partsL v.l ≠ 0 then partsL v.l else partsM none v.m := by
 cases v; rw [V.partsC]; rfl
theorem partsL_drop {l : List V} {k : Nat} {x : V} (h : l[k]? = some x) : partsL (l.drop k) = if x.partsC ≠ 0 then x.partsC else partsL (l.drop (k + 1)) := by
 rw [drop_at h, partsL]
def prevK (m : List (ByteArray × V)) : Nat → Option ByteArray
 | 0 => none
 | k + 1 => m[k]?.map (·.1)
theorem partsM_drop {m : List (ByteArray × V)} {k : Nat} {y : ByteArray} {x : V} (h : m[k]? = some (y, x)) : partsM (prevK m k) (m.drop k) =
  if keyB y = false then 7 else if noRise (prevK m k) y = true then 13 else if x.partsC ≠ 0 then x.partsC else partsM (prevK m (k + 1)) (m.drop (k + 1)) := by
 rw [drop_at h, partsM, prevK, h]; rfl
def V.checkC (v : V) : Int := if 16 < v.depth then 5 else if 4096 < v.size then 6 else v.partsC
end Go.Proofs.YtgidajjjpeboeaaGreatDoor
