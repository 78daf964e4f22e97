/-
  What the laws on revisions take in: a slice of records, a slice of ints, as lists.
-/
import Derived.Test.YtehmenkofhdmfaaRows
import Derived.Test.YtehmenkofhdmfaaHistG
import Derived.Test.YtehmenkofhdmfaaFrame
namespace Go.Proofs.Ytehmenkofhdmfaa
set_option linter.unusedSimpArgs false
set_option linter.unusedVariables false
open Go.ChangeShapes Go.WideShapes Go.ChangeAt Go.RowKit Go.Deep

theorem own : ownKnob Try.prog.godebug = none := by kernel_rfl
theorem laidOut : laidOutB Try.prog = true := by kernel_rfl
theorem cells37 : Try.prog.cellsOf 37 = 7 := by kernel_rfl
theorem cellsStr : Try.prog.cellsOf 9 = 1 := by kernel_rfl
theorem cellsInt : Try.prog.cellsOf 3 = 1 := by kernel_rfl
theorem bytes37 : Try.prog.bytesOf 37 = 88 := by kernel_rfl

theorem rec_of_trod {H : Type} {enc : TypeId × Value → H} {w : World} {base : Nat} {spare : Nat → Bool} {held : Bool} (n : Nat) (cs : List Value) (y : DataW H × List MemPlace)
    (h : DataW.trod enc Try.prog w base spare held n 37 cs = some y) : ∃ r, RecR cs r := by
  obtain ⟨xs, m, _, _, hl, hxl, hf⟩ := DataW.trod_struct Try.underlying37 h
  rw [cells37] at hl
  obtain ⟨c0, c1, c2, c3, c4, c5, c6, rfl⟩ := list7 hl
  have f0 : DataW.trod enc Try.prog w base spare held m 9 (List.take (Try.prog.cellsOf 9) (List.drop 0 [c0, c1, c2, c3, c4, c5, c6])) = xs[0]? := hf 0 _ rfl
  have f1 : DataW.trod enc Try.prog w base spare held m 3 (List.take (Try.prog.cellsOf 3) (List.drop 1 [c0, c1, c2, c3, c4, c5, c6])) = xs[1]? := hf 1 _ rfl
  have f2 : DataW.trod enc Try.prog w base spare held m 3 (List.take (Try.prog.cellsOf 3) (List.drop 2 [c0, c1, c2, c3, c4, c5, c6])) = xs[2]? := hf 2 _ rfl
  have f3 : DataW.trod enc Try.prog w base spare held m 3 (List.take (Try.prog.cellsOf 3) (List.drop 3 [c0, c1, c2, c3, c4, c5, c6])) = xs[3]? := hf 3 _ rfl
  have f4 : DataW.trod enc Try.prog w base spare held m 9 (List.take (Try.prog.cellsOf 9) (List.drop 4 [c0, c1, c2, c3, c4, c5, c6])) = xs[4]? := hf 4 _ rfl
  have f5 : DataW.trod enc Try.prog w base spare held m 9 (List.take (Try.prog.cellsOf 9) (List.drop 5 [c0, c1, c2, c3, c4, c5, c6])) = xs[5]? := hf 5 _ rfl
  have f6 : DataW.trod enc Try.prog w base spare held m 9 (List.take (Try.prog.cellsOf 9) (List.drop 6 [c0, c1, c2, c3, c4, c5, c6])) = xs[6]? := hf 6 _ rfl
  simp only [cellsStr, cellsInt, List.drop_succ_cons, List.drop_zero, List.take_succ_cons, List.take_zero] at f0 f1 f2 f3 f4 f5 f6
  have g : ∀ i (hi : i < 7), xs[i]? = some (xs[i]'(by have : xs.length = 7 := hxl; omega)) := fun i hi => List.getElem?_eq_getElem _
  rw [g 0 (by decide)] at f0
  rw [g 1 (by decide)] at f1
  rw [g 2 (by decide)] at f2
  rw [g 3 (by decide)] at f3
  rw [g 4 (by decide)] at f4
  rw [g 5 (by decide)] at f5
  rw [g 6 (by decide)] at f6
  obtain ⟨s0, e0, _⟩ := DataW.trod_string Try.underlying9 f0
  obtain ⟨s1, e1, _⟩ := DataW.trod_int Try.underlying3 f1
  obtain ⟨s2, e2, _⟩ := DataW.trod_int Try.underlying3 f2
  obtain ⟨s3, e3, _⟩ := DataW.trod_int Try.underlying3 f3
  obtain ⟨s4, e4, _⟩ := DataW.trod_string Try.underlying9 f4
  obtain ⟨s5, e5, _⟩ := DataW.trod_string Try.underlying9 f5
  obtain ⟨s6, e6, _⟩ := DataW.trod_string Try.underlying9 f6
  injection e0 with e0; injection e1 with e1; injection e2 with e2; injection e3 with e3; injection e4 with e4; injection e5 with e5; injection e6 with e6
  subst e0 e1 e2 e3 e4 e5 e6
  exact ⟨⟨s0, s1, s2, s3, s4, s5, s6⟩, rfl⟩


theorem int_of_trod {H : Type} {enc : TypeId × Value → H} {w : World} {base : Nat} {spare : Nat → Bool} {held : Bool} (n : Nat) (cs : List Value) (y : DataW H × List MemPlace)
    (h : DataW.trod enc Try.prog w base spare held n 3 cs = some y) : ∃ r, IntR cs r := by
  obtain ⟨s, e, _⟩ := DataW.trod_int Try.underlying3 h
  exact ⟨s, e⟩
theorem bytesInt : Try.prog.bytesOf 3 = 8 := by kernel_rfl
end Go.Proofs.Ytehmenkofhdmfaa
