/-
  The texts that the claim wants, one behind the other: part 7.
-/
import Derived.Test.YtdncaodccgfniaaDoorS6
set_option linter.unusedSimpArgs false
set_option linter.unusedVariables false
namespace Go.Proofs.YtdncaodccgfniaaDoor
open Go.RowKit
inductive V where
 | mk (kind : Int) (b : Bool) (n : Int) (s : ByteArray) (l : List V) (m : List (ByteArray × V))
def V.kind : V → Int | .mk k _ _ _ _ _ => k
def V.b : V → Bool | .mk _ b _ _ _ _ => b
def V.n : V → Int | .mk _ _ n _ _ _ => n
def V.s : V → ByteArray | .mk _ _ _ s _ _ => s
def V.l : V → List V | .mk _ _ _ _ l _ => l
def V.m : V → List (ByteArray × V) | .mk _ _ _ _ _ m => m
def noBytes : ByteArray := ⟨#[]⟩
def V.null : V := .mk 0 false 0 noBytes [] []
instance : Inhabited V := ⟨V.null⟩
section
variable {d d' : Nat} {w w' : World} {B B' : Nat} {cs : List Value} {v : V}
end
mutual
def V.size : V → Nat
 | .mk _ _ _ _ l m => 1 + sizeL l + sizeM m
def sizeL : List V → Nat
 | [] => 0
 | x :: l => x.size + sizeL l
def sizeM : List (ByteArray × V) → Nat
 | [] => 0
 | (_, x) :: m => x.size + sizeM m
end
mutual
def V.depth : V → Nat
 | .mk _ _ _ _ l m => max (depthL l) (depthM m) + 1
def depthL : List V → Nat
 | [] => 0
 | x :: l => max x.depth (depthL l)
def depthM : List (ByteArray × V) → Nat
 | [] => 0
 | (_, x) :: m => max x.depth (depthM m)
end
theorem V.size_eq (v : V) : v.size = 1 + sizeL v.l + sizeM v.m := by cases v; simp [V.size, V.l, V.m]
theorem V.depth_eq (v : V) : v.depth = max (depthL v.l) (depthM v.m) + 1 := by cases v; simp [V.depth, V.l, V.m]
theorem sizeL_append (a b : List V) : sizeL (a ++ b) = sizeL a + sizeL b := by
 induction a with
 | nil => simp [sizeL]
 | cons x a ih => (simp [sizeL, ih] <;> omega)
theorem sizeM_append (a b : List (ByteArray × V)) : sizeM (a ++ b) = sizeM a + sizeM b := by
 induction a with
 | nil => simp [sizeM]
 | cons x a ih => obtain ⟨k, x⟩ := x; (simp [sizeM, ih] <;> omega)
theorem depthL_append (a b : List V) : depthL (a ++ b) = max (depthL a) (depthL b) := by
 induction a with
 | nil => simp [depthL]
 | cons x a ih => (simp [depthL, ih] <;> omega)
theorem depthM_append (a b : List (ByteArray × V)) : depthM (a ++ b) = max (depthM a) (depthM b) := by
 induction a with
 | nil => simp [depthM]
 | cons x a ih => obtain ⟨k, x⟩ := x; (simp [depthM, ih] <;> omega)
theorem take_snoc {α : Type} {l : List α} {k : Nat} {x : α} (h : l[k]? = some x) : l.take (k + 1) = l.take k ++ [x] := by rw [List.take_add_one, h]; rfl
theorem sizeL_take {l : List V} {k : Nat} {x : V} (h : l[k]? = some x) : sizeL (l.take (k + 1)) = sizeL (l.take k) + x.size := by rw [take_snoc h, sizeL_append]; simp [sizeL]
theorem sizeM_take {l : List (ByteArray × V)} {k : Nat} {y : ByteArray} {x : V} (h : l[k]? = some (y, x)) : sizeM (l.take (k + 1)) = sizeM (l.take k) + x.size := by rw [take_snoc h, sizeM_append]; simp [sizeM]
theorem depthL_take {l : List V} {k : Nat} {x : V} (h : l[k]? = some x) : depthL (l.take (k + 1)) = max (depthL (l.take k)) x.depth := by rw [take_snoc h, depthL_append]; simp [depthL]
theorem depthM_take {l : List (ByteArray × V)} {k : Nat} {y : ByteArray} {x : V} (h : l[k]? = some (y, x)) : depthM (l.take (k + 1)) = max (depthM (l.take k)) x.depth := by rw [take_snoc h, depthM_append]; simp [depthM]
theorem sizeL_take_le (l : List V) (k : Nat) : sizeL (l.take k) ≤ sizeL l := by
 have := sizeL_append (l.take k) (l.drop k)
 rw [List.take_append_drop] at this; omega
theorem sizeM_take_le (l : List (ByteArray × V)) (k : Nat) : sizeM (l.take k) ≤ sizeM l := by
 have := sizeM_append (l.take k) (l.drop k)
 rw [List.take_append_drop] at this; omega
theorem V.size_pos (v : V) : 1 ≤ v.size := by rw [V.size_eq]; omega
theorem len_le_sizeL (l : List V) : l.length ≤ sizeL l := by
 induction l with
 | nil => simp
 | cons x l ih => have := x.size_pos; simp [sizeL]; omega
theorem len_le_sizeM (l : List (ByteArray × V)) : l.length ≤ sizeM l := by
 induction l with
 | nil => simp
 | cons x l ih => obtain ⟨k, x⟩ := x; have := x.size_pos; simp [sizeM]; omega
def allTo (p : UInt8 → Bool) (s : ByteArray) (k : Nat) : Prop := ∀ j (h : j < s.size), j < k → p s[j] = true
def allB (p : UInt8 → Bool) (s : ByteArray) : Bool := s.data.toList.all p
theorem allTo_zero (p : UInt8 → Bool) (s : ByteArray) : allTo p s 0 := fun j _ h => by omega
theorem allTo_succ {p : UInt8 → Bool} {s : ByteArray} {k : Nat} (h : allTo p s k) (hk : k < s.size) (hp : p s[k] = true) : allTo p s (k + 1) := by
 intro j hj hjk
 rcases Nat.lt_or_ge j k with h1 | h1
 ·exact h j hj h1
 ·obtain rfl : j = k := by omega
  exact hp
theorem allB_true {p : UInt8 → Bool} {s : ByteArray} (h : allTo p s s.size) : allB p s = true := by
 unfold allB
 rw [List.all_eq_true]
 intro x hx
 obtain ⟨j, hj, rfl⟩ := List.getElem_of_mem hx
 have hj' : j < s.size := by simpa using hj
 exact h j hj' hj'
theorem allB_false {p : UInt8 → Bool} {s : ByteArray} {k : Nat} (hk : k < s.size) (hp : p s[k] = false) : allB p s = false := by
 unfold allB
 rw [List.all_eq_false]
 exact ⟨s[k], List.getElem_mem (l := s.data.toList) (n := k) (by simpa using hk), by rw [hp]; decide⟩
def okT (c : UInt8) : Bool := (decide (32 ≤ c.toNat) && decide (c.toNat ≤ 126)) || c.toNat == 9 || c.toNat == 10
def textB (s : ByteArray) : Bool := allB okT s && decide (s.size ≤ 65536)
mutual
def V.w : V → Nat
 | .mk _ _ _ s l m => 1 + s.size + wL l + wM m
def wL : List V → Nat
 | [] => 0
 | x :: l => x.w + wL l
def wM : List (ByteArray × V) → Nat
 | [] => 0
 | (y, x) :: m => x.w + y.size + wM m
end
theorem mem_size {l : List V} {x : V} (h : x ∈ l) : x.size ≤ sizeL l := by
 induction l with
 | nil => cases h
 | cons a l ih =>
  simp only [sizeL]
  rcases List.mem_cons.1 h with rfl | h
  ·omega
  ·have := ih h; omega
theorem mem_sizeM {l : List (ByteArray × V)} {p : ByteArray × V} (h : p ∈ l) : p.2.size ≤ sizeM l := by
 induction l with
 | nil => cases h
 | cons a l ih =>
  obtain ⟨k, a⟩ := a
  simp only [sizeM]
  rcases List.mem_cons.1 h with rfl | h
  ·simp
  ·have := ih h; omega
def kbad (kind : Int) (b : Bool) (n : Int) (s : ByteArray) (l m : Nat) : Bool :=
 decide (kind < 0) || decide (5 < kind) || (decide (kind ≠ 1) && b) || (decide (kind ≠ 2) && decide (n ≠ 0)) || (decide (kind ≠ 3) && decide (s ≠ noBytes)) || (decide (kind ≠ 4) && decide (0 < l)) || (decide (kind ≠ 5) && decide (0 < m))
theorem bytes_tri : ∀ {a b : List UInt8}, Op.bytesLess a b = false → (a == b) = false → Op.bytesLess b a = true
 | [], [], _, h => by simp at h
 | [], _ :: _, h, _ => by simp [Op.bytesLess] at h
 | _ :: _, [], _, _ => by simp [Op.bytesLess]
 | x :: a, y :: b, h, h2 => by
  simp only [Op.bytesLess, Bool.or_eq_false_iff, decide_eq_false_iff_not, Bool.and_eq_false_iff, beq_eq_false_iff_ne, UInt8.not_lt] at h
  simp only [Op.bytesLess, Bool.or_eq_true, decide_eq_true_eq, Bool.and_eq_true, beq_iff_eq]
  by_cases e : x = y
  ·subst e
   exact .inr ⟨rfl, bytes_tri (by simpa using h.2) (by simpa using h2)⟩
  ·exact .inl (UInt8.lt_of_le_of_ne h.1 fun e' => e e'.symm)
theorem bl_irrefl : ∀ a : List UInt8, Op.bytesLess a a = false
 | [] => rfl
 | x :: a => by simp [Op.bytesLess, bl_irrefl a, UInt8.lt_irrefl]
theorem bl_trans : ∀ {a b c : List UInt8}, Op.bytesLess a b = true → Op.bytesLess b c = true → Op.bytesLess a c = true
 | [], _, [], _, h2 => by cases ‹List UInt8› <;> simp [Op.bytesLess] at h2
 | [], _, _ :: _, _, _ => rfl
 | _ :: _, [], _, h, _ => by simp [Op.bytesLess] at h
 | _ :: _, _ :: _, [], _, h => by simp [Op.bytesLess] at h
 | x :: a, y :: b, z :: c, h, k => by
  simp only [Op.bytesLess, Bool.or_eq_true, decide_eq_true_eq, Bool.and_eq_true, beq_iff_eq] at h k ⊢
  rcases h with h | ⟨rfl, h⟩
  ·rcases k with k | ⟨rfl, k⟩
   ·exact .inl (UInt8.lt_trans h k)
   ·exact .inl h
  ·rcases k with k | ⟨rfl, k⟩
   ·exact .inl k
   ·exact .inr ⟨rfl, bl_trans h k⟩
def klt (a b : ByteArray) : Prop := Op.bytesLess a.toList b.toList = true
theorem klt_ne {a b : ByteArray} (h : klt a b) : a ≠ b := by
 rintro rfl
 unfold klt at h
 rw [bl_irrefl] at h
 cases h
theorem depth_le_size_all (n : Nat) : ∀ v : V, v.size ≤ n → v.depth ≤ v.size := by
 induction n with
 | zero => intro v h; have := v.size_pos; omega
 | succ n ih =>
  intro v hn
  have e1 := v.size_eq
  have hL : ∀ l : List V, sizeL l ≤ n → depthL l ≤ sizeL l := by
   intro l
   induction l with
   | nil => intro _; simp [depthL]
   | cons x l ihl => intro h; simp only [sizeL, depthL] at h ⊢; have := ih x (by omega); have := ihl (by omega); omega
  have hM : ∀ l : List (ByteArray × V), sizeM l ≤ n → depthM l ≤ sizeM l := by
   intro l
   induction l with
   | nil => intro _; simp [depthM]
   | cons x l ihl => obtain ⟨y, x⟩ := x; intro h; simp only [sizeM, depthM] at h ⊢; have := ih x (by omega); have := ihl (by omega); omega
  have := hL v.l (by omega)
  have := hM v.m (by omega)
  rw [V.depth_eq]; omega
theorem V.depth_le_size' (v : V) : v.depth ≤ v.size := depth_le_size_all v.size v (Nat.le_refl _)
end Go.Proofs.YtdncaodccgfniaaDoor
