/-
  report.Result of a revision alone, the document's example; report.Error as a contract over abstract values.
-/
import Derived.Test.YtamecdecpmklmaaDoorWds
import Derived.Test.YtamecdecpmklmaaDoorErw
namespace Go.Proofs.YtamecdecpmklmaaDoor
set_option linter.unusedSimpArgs false
set_option linter.unusedVariables false
open Go.RowKit

theorem laidW_of {w : World} (h : GW w) : LaidW w := by
  refine ⟨fun j x hx => ?_, fun j x hx => ?_, fun j x hx => ?_⟩
  · rw [h.cell (g := 0) (l := gl_0) (by simp [globL])]
    have e : gl_0 = lowW.map Value.string := rfl
    rw [e, List.getElem?_map, hx]; rfl
  · rw [h.cell (g := 1) (l := gl_1) (by simp [globL])]
    have e : gl_1 = middleW.map Value.string := rfl
    rw [e, List.getElem?_map, hx]; rfl
  · rw [h.cell (g := 2) (l := gl_2) (by simp [globL])]
    have e : gl_2 = highW.map Value.string := rfl
    rw [e, List.getElem?_map, hx]; rfl
theorem error_a (e : Int) (hi : e ≤ 9223372036854775807) : AC Tryd.prog 5 [.int .i64 e] (.str (errW e)) := by
  refine ⟨by kernel_rfl, fun σ w vs hh hr hg => ?_⟩
  have hl : vs.length = 1 := hr.1
  obtain ⟨v1, rfl⟩ := List.length_eq_one_iff.1 hl
  have h1 : Rel1 σ v1 (.int .i64 e) := hr.2 0 v1 _ rfl rfl
  cases h1
  refine (error_any e w (laidW_of hg) hi).mono ?_
  rintro e' w' ⟨rfl, rfl⟩
  exact ⟨σ, _, rfl, Ext.refl _ _, hh, Below.refl _ _, .str _⟩

def revB : ByteArray := ⟨#[114, 101, 118, 105, 115, 105, 111, 110]⟩
theorem revJoin : waJoin [.s revB, .n 3] = ⟨#[114, 101, 118, 105, 115, 105, 111, 110, 32, 51]⟩ := by decide +kernel
theorem two_wa {w : World} {g : Nat} (k1 : w.cell? ⟨g, 0, none⟩ = some (waV (.s revB))) (k2 : w.cell? ⟨g, 1, none⟩ = some (waV (.n 3))) (hg : g < w.heap.size) : Sl 1 WAR w w.heap.size (.slice (some ⟨g, 0, none⟩) 2 2) [.s revB, .n 3] := by
  refine ⟨some ⟨g, 0, none⟩, 2, rfl, by simp, fun i x hi => ⟨g, 0, rfl, hg, [waV x], rfl, rfl, fun j u hu => ?_⟩⟩
  have hj : j = 0 := by have := (List.getElem?_eq_some_iff.1 hu).1; simpa using this
  subst hj
  cases hu
  match i, hi with
  | 0, hi => cases hi; exact k1
  | 1, hi => cases hi; exact k2
  | (n + 2), hi => simp at hi
set_option maxHeartbeats 1000000 in
theorem result_three (w : World) : Calls Tryd.prog 9 #[.agg #[.int .i64 3, .string ⟨#[]⟩, .int .i64 0]] w fun e w' => e = .returned (.string ⟨#[114, 101, 118, 105, 115, 105, 111, 110, 32, 51]⟩) ∧ Below w.heap.size w w' := by
  go_enter Tryd.func9, Tryd.ntmps9
  go_wp2_with fail
  refine (words_any _ [.s revB, .n 3] _ (two_wa ?_ ?_ ?_) (by decide) (by decide) ?_ ?_).mono ?_
  · rw [World.cell?_alloc_at _ _ _ _ (by simp)]; rfl
  · rw [World.cell?_alloc_at _ _ _ _ (by simp)]; rfl
  · simp
  · intro x hx
    simp at hx
    rcases hx with rfl | rfl
    · trivial
    · show 3 < 100; omega
  · decide +kernel
  rintro e w1 ⟨rfl, hb⟩
  rw [revJoin]
  have HB := Lib.hid (show Below w.heap.size w w1 from (((Below.refl _ _).alloc (Nat.le_refl _) _).alloc (by simp) _).trans (hb.mono (by simp; omega)))
  clear hb
  go_wp2
  go_ret
  exact ⟨rfl, HB.out⟩
set_option maxHeartbeats 1000000 in
theorem awake_any (w : World) (hw : LaidW w) : Calls Tryd.prog 4 #[] w fun e w' => e = .returned (.bool true) ∧ Below w.heap.size w w' := by
  have he : errW 34 = ⟨#[98, 117, 115, 121]⟩ := by decide +kernel
  go_enter Tryd.func4, Tryd.ntmps4
  go_wp2_with fail
  refine (error_any 34 w hw (by decide)).mono ?_
  rintro e w1 ⟨rfl, rfl⟩
  rw [he]
  go_wp2_with fail
  refine (result_three w1).mono ?_
  rintro e w2 ⟨rfl, hb⟩
  have HB := Lib.hid hb
  clear hb
  go_wp2
  go_ret
  exact ⟨rfl, HB.out⟩
end Go.Proofs.YtamecdecpmklmaaDoor
