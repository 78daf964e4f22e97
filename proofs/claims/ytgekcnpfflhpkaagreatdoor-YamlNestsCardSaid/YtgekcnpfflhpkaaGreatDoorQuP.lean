/-
  A text in quotes: plain laws.
-/
import Derived.Test.YtgekcnpfflhpkaaGreatDoorFol
import Derived.Lib.Strings
namespace Go.Proofs.YtgekcnpfflhpkaaGreatDoor
set_option linter.unusedSimpArgs false
set_option linter.unusedVariables false
open Go.RowKit

/-- a byte as it stands in quotes -/
def quoteC (c : UInt8) : ByteArray := if c = 10 then ⟨#[92, 110]⟩ else if c = 9 then ⟨#[92, 116]⟩ else if c = 34 ∨ c = 92 then ⟨#[92, c]⟩ else ⟨#[c]⟩
def quoteP (s : ByteArray) : Nat → ByteArray
  | 0 => ⟨#[34]⟩
  | k + 1 => quoteP s k ++ quoteC (s.data.getD k 0)
def quoteB (s : ByteArray) : ByteArray := quoteP s s.size ++ ⟨#[34]⟩
theorem quoteC_size (c : UInt8) : (quoteC c).size ≤ 2 := by
  unfold quoteC
  split
  · decide
  · split
    · decide
    · split <;> simp [ByteArray.size]
theorem quoteP_size (s : ByteArray) (k : Nat) : (quoteP s k).size ≤ 1 + 2 * k := by
  induction k with
  | zero => simp [quoteP, ByteArray.size]
  | succ k ih =>
    have := quoteC_size (s.data.getD k 0)
    rw [quoteP, ByteArray.size_append]
    omega
theorem ext_one {s : ByteArray} {k : Nat} (h : k < s.size) : s.extract k (k + 1) = ⟨#[s[k]]⟩ := by
  rw [Lib.extract_eq]
  have h2 : k < s.data.toList.length := h
  rw [List.drop_eq_getElem_cons h2, Nat.add_sub_cancel_left, List.take_succ_cons, List.take_zero]
  rfl
theorem wrap_s {n : Int} (h0 : 0 ≤ n) (h1 : n ≤ 9223372036854775807) : (IntKind.i64.wrap n).toNat = n.toNat := by rw [wrap_in (by omega) h1]
theorem ba_app (a b c : ByteArray) : a ++ b ++ c = a ++ (b ++ c) := ByteArray.append_assoc
end Go.Proofs.YtgekcnpfflhpkaaGreatDoor
