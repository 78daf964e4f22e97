/-
  The document's values as abstract values.
-/
import Derived.Test.YtgekcnpfflhpkaaGreatDoorAF
import Derived.Test.YtgekcnpfflhpkaaGreatDoorTree
namespace Go.Proofs.YtgekcnpfflhpkaaGreatDoor
set_option linter.unusedSimpArgs false
set_option linter.unusedVariables false
open Go.RowKit

mutual
/-- a value's cells -/
def cellsV : V → List AV
  | .mk k b n s l m => [.int .i64 k, .bool b, .int .i64 n, .str s, .lst .any 6 (rowsV l), .lst .any 7 (rowsM m)]
def rowsV : List V → List (List AV)
  | [] => []
  | x :: l => cellsV x :: rowsV l
def rowsM : List (ByteArray × V) → List (List AV)
  | [] => []
  | (y, x) :: m => (.str y :: cellsV x) :: rowsM m
end
theorem cellsV_eq (v : V) : cellsV v = [.int .i64 v.kind, .bool v.b, .int .i64 v.n, .str v.s, .lst .any 6 (rowsV v.l), .lst .any 7 (rowsM v.m)] := by cases v; rfl
theorem rowsV_len (l : List V) : (rowsV l).length = l.length := by
  induction l with
  | nil => rfl
  | cons x l ih => simp [rowsV, ih]
theorem rowsM_len (l : List (ByteArray × V)) : (rowsM l).length = l.length := by
  induction l with
  | nil => rfl
  | cons x l ih => obtain ⟨y, x⟩ := x; simp [rowsM, ih]
theorem rowsV_at : ∀ {l : List V} {k : Nat} {x : V}, l[k]? = some x → (rowsV l)[k]? = some [.int .i64 x.kind, .bool x.b, .int .i64 x.n, .str x.s, .lst .any 6 (rowsV x.l), .lst .any 7 (rowsM x.m)]
  | y :: l, 0, x, h => by simp at h; subst h; rw [← cellsV_eq]; rfl
  | y :: l, k + 1, x, h => by simpa [rowsV] using rowsV_at (l := l) (k := k) (by simpa using h)
theorem rowsM_at : ∀ {l : List (ByteArray × V)} {k : Nat} {y : ByteArray} {x : V}, l[k]? = some (y, x) → (rowsM l)[k]? = some [.str y, .int .i64 x.kind, .bool x.b, .int .i64 x.n, .str x.s, .lst .any 6 (rowsV x.l), .lst .any 7 (rowsM x.m)]
  | (z, y) :: l, 0, w, x, h => by simp at h; obtain ⟨rfl, rfl⟩ := h; rw [rowsM, cellsV_eq]; rfl
  | (z, y) :: l, k + 1, w, x, h => by simpa [rowsM] using rowsM_at (l := l) (k := k) (by simpa using h)
theorem wrap_in {n : Int} (h0 : -9223372036854775808 ≤ n) (h1 : n ≤ 9223372036854775807) : IntKind.i64.wrap n = n := by
  have := IntWalk.i64_in n (by omega)
  exact this
end Go.Proofs.YtgekcnpfflhpkaaGreatDoor
