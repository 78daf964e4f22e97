/-
  YamlNests, walked: it answers true.
-/
import Derived.Test.YtgekcnpfflhpkaaGreatDoorYn
namespace Go.Proofs.YtgekcnpfflhpkaaGreatDoor
set_option linter.unusedSimpArgs false
set_option linter.unusedVariables false
open Go.RowKit

theorem rep_a (s : ByteArray) (k : Nat) (h0 : 0 < s.size) (hz : s.size * k ≤ 140737488355328) (hk : k ≤ 1000000) : AC Tryz.prog 17 [.str s, .int .i64 k] (.str ⟨(Lib.repeatL s.data.toList k).toArray⟩) := by
  refine ⟨by kernel_rfl, fun σ w vs hh hr hg => ?_⟩
  obtain ⟨v1, v2, rfl⟩ : ∃ a b, vs = [a, b] := by
    have hl : vs.length = 2 := hr.1
    rcases vs with _ | ⟨a, _ | ⟨b, _ | ⟨c, l⟩⟩⟩ <;> simp at hl
    exact ⟨a, b, rfl⟩
  have h1 : Rel1 σ v1 (.str s) := hr.2 0 v1 _ rfl rfl
  have h2 : Rel1 σ v2 (.int .i64 k) := hr.2 1 v2 _ rfl rfl
  cases h1
  cases h2
  have fin : ∀ w' : World, Below w.heap.size w w' → Holds σ w' := fun w' hb b q v hv => (hb.cell (p := ⟨b, q, none⟩) (World.block_lt_of_cell? w _ (hh _ _ _ hv))).trans (hh _ _ _ hv)
  rcases k with _ | _ | k
  · refine (Tryz.strings_Repeat_zero s w).mono ?_
    rintro e w' ⟨rfl, rfl⟩
    exact ⟨σ, _, rfl, Ext.refl _ _, hh, Below.refl _ _, Rel1.str _⟩
  · refine (Tryz.strings_Repeat_one s w).mono ?_
    rintro e w' ⟨rfl, rfl⟩
    refine ⟨σ, _, rfl, Ext.refl _ _, hh, Below.refl _ _, ?_⟩
    have e : (⟨(Lib.repeatL s.data.toList (0 + 1)).toArray⟩ : ByteArray) = s := ba_ext (by show (s.data.toList ++ []) = _; simp)
    rw [e]
    exact Rel1.str _
  · refine (Tryz.strings_Repeat_main s (k + 1 + 1) w (by omega) (by omega) hz h0).mono ?_
    rintro e w' ⟨rfl, hb⟩
    exact ⟨σ, _, rfl, Ext.refl _ _, fin w' hb, hb, Rel1.str _⟩
theorem repL_len (l : Bs) : ∀ k, (Lib.repeatL l k).length = l.length * k
  | 0 => rfl
  | k + 1 => by
    show (l ++ Lib.repeatL l k).length = _
    rw [List.length_append, repL_len l k, Nat.mul_succ]
    omega
theorem rep_size (l : Bs) (k : Nat) : (⟨(Lib.repeatL l k).toArray⟩ : ByteArray).size = l.length * k := repL_len l k
def nestO (b : Bool) : Bs := if b = true then [123, 97, 58, 32] else [91]
def nestC (b : Bool) : Bs := if b = true then [125] else [93]
def nestS (b : Bool) (k : Nat) : ByteArray := ⟨(Lib.repeatL (nestO b) k).toArray⟩ ++ ⟨#[49]⟩ ++ ⟨(Lib.repeatL (nestC b) k).toArray⟩
def nestV (b : Bool) : Nat → V
  | 0 => V.int 1
  | k + 1 => if b = true then vMap [(⟨#[97]⟩, nestV b k)] else vList [nestV b k]
set_option maxHeartbeats 4000000 in
set_option maxRecDepth 100000 in
theorem nest_v (b : Bool) (k : Nat) (hk : k < 40) : parseL (nestS b k) = (if 15 < k then V.null else nestV b k, if 15 < k then 5 else 0) := by
  have : k = 0 ∨ k = 1 ∨ k = 2 ∨ k = 3 ∨ k = 4 ∨ k = 5 ∨ k = 6 ∨ k = 7 ∨ k = 8 ∨ k = 9 ∨ k = 10 ∨ k = 11 ∨ k = 12 ∨ k = 13 ∨ k = 14 ∨ k = 15 ∨ k = 16 ∨ k = 17 ∨ k = 18 ∨ k = 19 ∨ k = 20 ∨ k = 21 ∨ k = 22 ∨ k = 23 ∨ k = 24 ∨ k = 25 ∨ k = 26 ∨ k = 27 ∨ k = 28 ∨ k = 29 ∨ k = 30 ∨ k = 31 ∨ k = 32 ∨ k = 33 ∨ k = 34 ∨ k = 35 ∨ k = 36 ∨ k = 37 ∨ k = 38 ∨ k = 39 := by omega
  cases b
  · rcases this with rfl | rfl | rfl | rfl | rfl | rfl | rfl | rfl | rfl | rfl | rfl | rfl | rfl | rfl | rfl | rfl | rfl | rfl | rfl | rfl | rfl | rfl | rfl | rfl | rfl | rfl | rfl | rfl | rfl | rfl | rfl | rfl | rfl | rfl | rfl | rfl | rfl | rfl | rfl | rfl
    all_goals (show _ = _; kernel_rfl)
  · rcases this with rfl | rfl | rfl | rfl | rfl | rfl | rfl | rfl | rfl | rfl | rfl | rfl | rfl | rfl | rfl | rfl | rfl | rfl | rfl | rfl | rfl | rfl | rfl | rfl | rfl | rfl | rfl | rfl | rfl | rfl | rfl | rfl | rfl | rfl | rfl | rfl | rfl | rfl | rfl | rfl
    all_goals (show _ = _; kernel_rfl)
end Go.Proofs.YtgekcnpfflhpkaaGreatDoor
