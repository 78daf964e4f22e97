/-
  A value as a text of lines (the YAML writer's): plain laws, no program in sight.
-/
import Derived.Test.YtpcddcfpbohogaaDoorEnc
namespace Go.Proofs.YtpcddcfpbohogaaDoor
set_option linter.unusedSimpArgs false
set_option linter.unusedVariables false
open Go.RowKit

def padB (k : Nat) : ByteArray := ⟨(List.replicate k (32 : UInt8)).toArray⟩
def V.leaf (v : V) : Bool := v.l.isEmpty && v.m.isEmpty
mutual
/-- the lines of a value, so far in; w: a key's word, pr: a leaf's -/
def V.lay (w : ByteArray → ByteArray) (pr : V → ByteArray) : V → Nat → ByteArray
  | .mk _ _ _ _ l m, k => layL w pr l k ++ layM w pr m k
def layL (w : ByteArray → ByteArray) (pr : V → ByteArray) : List V → Nat → ByteArray
  | [], _ => ⟨#[]⟩
  | x :: l, k => (padB k ++ ⟨#[45]⟩) ++ (if x.leaf = true then ⟨#[32]⟩ ++ pr x ++ ⟨#[10]⟩ else ⟨#[10]⟩ ++ V.lay w pr x (k + 2)) ++ layL w pr l k
def layM (w : ByteArray → ByteArray) (pr : V → ByteArray) : List (ByteArray × V) → Nat → ByteArray
  | [], _ => ⟨#[]⟩
  | (y, x) :: m, k => (padB k ++ w y ++ ⟨#[58]⟩) ++ (if x.leaf = true then ⟨#[32]⟩ ++ pr x ++ ⟨#[10]⟩ else ⟨#[10]⟩ ++ V.lay w pr x (k + 2)) ++ layM w pr m k
end
/-- what stands behind a dash, or a colon -/
def V.tail (w : ByteArray → ByteArray) (pr : V → ByteArray) (x : V) (k : Nat) : ByteArray := if x.leaf = true then ⟨#[32]⟩ ++ pr x ++ ⟨#[10]⟩ else ⟨#[10]⟩ ++ V.lay w pr x (k + 2)
/-- a value as a text -/
def V.emit (w : ByteArray → ByteArray) (pr : V → ByteArray) (v : V) : ByteArray := if v.leaf = true then pr v ++ ⟨#[10]⟩ else v.lay w pr 0
variable {w : ByteArray → ByteArray} {pr : V → ByteArray}
theorem V.lay_eq (v : V) (k : Nat) : v.lay w pr k = layL w pr v.l k ++ layM w pr v.m k := by cases v; simp [V.lay, V.l, V.m]
theorem layL_cons (x : V) (l : List V) (k : Nat) : layL w pr (x :: l) k = (padB k ++ ⟨#[45]⟩) ++ x.tail w pr k ++ layL w pr l k := by rw [layL, V.tail]
theorem layM_cons (y : ByteArray) (x : V) (m : List (ByteArray × V)) (k : Nat) : layM w pr ((y, x) :: m) k = (padB k ++ w y ++ ⟨#[58]⟩) ++ x.tail w pr k ++ layM w pr m k := by rw [layM, V.tail]
theorem empty_app (a : ByteArray) : (⟨#[]⟩ : ByteArray) ++ a = a := ByteArray.empty_append
theorem layL_append (k : Nat) : ∀ a b : List V, layL w pr (a ++ b) k = layL w pr a k ++ layL w pr b k
  | [], b => by rw [layL, empty_app]; rfl
  | x :: a, b => by rw [List.cons_append, layL_cons, layL_cons, layL_append k a b]; simp only [ByteArray.append_assoc]
theorem layM_append (k : Nat) : ∀ a b : List (ByteArray × V), layM w pr (a ++ b) k = layM w pr a k ++ layM w pr b k
  | [], b => by rw [layM, empty_app]; rfl
  | (y, x) :: a, b => by rw [List.cons_append, layM_cons, layM_cons, layM_append k a b]; simp only [ByteArray.append_assoc]
theorem layL_take {l : List V} {i : Nat} {x : V} (h : l[i]? = some x) (k : Nat) : layL w pr (l.take (i + 1)) k = layL w pr (l.take i) k ++ ((padB k ++ ⟨#[45]⟩) ++ x.tail w pr k) := by
  rw [List.take_add_one, h, layL_append]
  simp only [Option.toList]
  rw [layL_cons, layL]
  congr 1
  exact ByteArray.append_empty
theorem layM_take {l : List (ByteArray × V)} {i : Nat} {y : ByteArray} {x : V} (h : l[i]? = some (y, x)) (k : Nat) : layM w pr (l.take (i + 1)) k = layM w pr (l.take i) k ++ ((padB k ++ w y ++ ⟨#[58]⟩) ++ x.tail w pr k) := by
  rw [List.take_add_one, h, layM_append]
  simp only [Option.toList]
  rw [layM_cons, layM]
  congr 1
  exact ByteArray.append_empty
theorem layL_le (l : List V) (i k : Nat) : (layL w pr (l.take i) k).size ≤ (layL w pr l k).size := by
  conv => rhs; rw [← List.take_append_drop i l, layL_append, ByteArray.size_append]
  omega
theorem layM_le (l : List (ByteArray × V)) (i k : Nat) : (layM w pr (l.take i) k).size ≤ (layM w pr l k).size := by
  conv => rhs; rw [← List.take_append_drop i l, layM_append, ByteArray.size_append]
  omega
theorem leaf_iff {v : V} : v.leaf = true ↔ v.l.length + v.m.length = 0 := by
  rw [V.leaf, Bool.and_eq_true, List.isEmpty_iff, List.isEmpty_iff, ← List.length_eq_zero_iff, ← List.length_eq_zero_iff]
  omega
theorem padB_size (k : Nat) : (padB k).size = k := by simp [padB, ByteArray.size]
end Go.Proofs.YtpcddcfpbohogaaDoor
