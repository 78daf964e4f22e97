/-
  The texts that the claim wants, one behind the other: part 1.
-/
import Derived.WalkKit
import Derived.Deep.Draws
import Derived.Lib.Hide
set_option linter.unusedSimpArgs false
set_option linter.unusedVariables false
namespace Go.Proofs.YtgidajjjpeboeaaGreatDoor
open Go.RowKit
theorem below_drewN {B : Nat} {a w : World} (h : Below B a w) (n : Nat) : Below B a (w.drewN n) := ⟨h.os, h.tape, h.output, h.size, h.block⟩
def SlAt {α : Type} (size : Nat) (R : List Value → α → Prop) (w : World) (B : Nat) (A : Option Addr) (l : List α) : Prop :=
 ∀ (i : Nat) (x : α), l[i]? = some x → ∃ b o, A = some ⟨b, o, none⟩ ∧ b < B ∧ ∃ cs, cs.length = size ∧ R cs x ∧
  ∀ (j : Nat) (u : Value), cs[j]? = some u → w.cell? ⟨b, o + i * size + j, none⟩ = some u
def Sl {α : Type} (size : Nat) (R : List Value → α → Prop) (w : World) (B : Nat) (v : Value) (l : List α) : Prop :=
 ∃ (A : Option Addr) (cap : Nat), v = .slice A l.length cap ∧ l.length ≤ cap ∧ SlAt size R w B A l
section
variable {α : Type} {size : Nat} {R R' : List Value → α → Prop} {w w' : World} {B B' : Nat} {v : Value} {l : List α}
theorem Sl.nil (c : Nat) (A : Option Addr) : Sl size R w B (.slice A 0 c) [] := ⟨A, c, rfl, Nat.zero_le _, fun i x hi => by simp at hi⟩
end
section
variable {α : Type} {e : TypeId} {size : Nat} {R R' : List Value → α → Prop} {w w' : World} {base : Nat} {v : Value} {l : List α}
end
end Go.Proofs.YtgidajjjpeboeaaGreatDoor
