/-
  Files that come in: a list of names and texts; a world for the witness.
-/
import Derived.Test.YtpcddcfpbohogaaDoorArg
import Derived.Test.YtpcddcfpbohogaaDoorBn1
import Derived.Test.YtpcddcfpbohogaaDoorGl
namespace Go.Proofs.YtpcddcfpbohogaaDoor
set_option linter.unusedSimpArgs false
set_option linter.unusedVariables false
open Go.ChangeShapes Go.WideShapes Go.ChangeAt Go.RowKit Go.Deep

theorem cellsF : Tryd.prog.cellsOf 36 = 2 := by kernel_rfl
theorem bytesF : Tryd.prog.bytesOf 36 = 32 := by kernel_rfl
theorem sl_every {α : Type} {size : Nat} {R : List Value → α → Prop} {w : World} {B : Nat} {v : Value} {l : List α} (h : Sl size R w B v l) {x : α} (hx : x ∈ l) : ∃ cs, R cs x := by
  obtain ⟨A, cap, _, _, hat⟩ := h
  obtain ⟨i, hi⟩ := List.getElem?_of_mem hx
  obtain ⟨_, _, _, _, cs, _, h2, _⟩ := hat i x hi
  exact ⟨cs, h2⟩
theorem files_of_trod {H : Type} {enc : TypeId × Value → H} {w : World} {base : Nat} {spare : Nat → Bool} {held : Bool} {v : Value} {d : DataW H} {p : List MemPlace} (hv : ∃ a n c, v = .slice a n c) (h : DataW.Trod enc Tryd.prog w base spare held 32 v d p) (hw : WtOk Tryd.prog 32 d) :
    ∃ l : List Fl, Rel1 (σW w) v (.lst .any 2 (rowsF l)) ∧ l.length ≤ 4398046511103 ∧ ∀ p ∈ l, p.1.size ≤ 140737488355328 := by
  obtain ⟨a, n, c, rfl⟩ := hv
  obtain ⟨fuel, hf⟩ := h
  obtain ⟨l, hl, hb⟩ := sl_of_trodW (R := fun cs (p : Fl) => cs = [.string p.1, .string p.2] ∧ p.1.size ≤ 140737488355328) (x := (d, p)) Tryd.underlying32 cellsF (by decide) (v := .slice a n c) (fuel := fuel) (by simpa [Value.cells] using hf) hw (fun n cs y _ h hw => by
    obtain ⟨xs, m, hm, hy, hl, hxl, hf⟩ := DataW.trod_struct Tryd.underlying36 h
    rw [cellsF] at hl
    obtain ⟨c0, c1, rfl⟩ : ∃ a b, cs = [a, b] := by
      rcases cs with _ | ⟨a, _ | ⟨b, _ | ⟨c, l⟩⟩⟩ <;> simp at hl
      exact ⟨a, b, rfl⟩
    obtain ⟨x0, x1, rfl⟩ : ∃ a b, xs = [a, b] := by
      have hxl : xs.length = 2 := hxl
      rcases xs with _ | ⟨a, _ | ⟨b, _ | ⟨c, l⟩⟩⟩ <;> simp at hxl
      exact ⟨a, b, rfl⟩
    rw [hy] at hw
    have f0 : DataW.trod enc Tryd.prog w base spare held m 9 (List.take (Tryd.prog.cellsOf 9) (List.drop 0 [c0, c1])) = some x0 := hf 0 _ rfl
    have f1 : DataW.trod enc Tryd.prog w base spare held m 9 (List.take (Tryd.prog.cellsOf 9) (List.drop 1 [c0, c1])) = some x1 := hf 1 _ rfl
    have w0 : WtOk Tryd.prog 9 x0.1 := WtOk.part Tryd.underlying36 hw (j := 0) rfl rfl
    simp only [cellsS, List.drop_succ_cons, List.drop_zero, List.take_succ_cons, List.take_zero] at f0 f1
    obtain ⟨s0, e0, hx0, _⟩ := DataW.trod_string Tryd.underlying9 f0
    obtain ⟨s1, e1, hx1, _⟩ := DataW.trod_string Tryd.underlying9 f1
    injection e0 with e0; injection e1 with e1
    subst e0 e1
    rw [hx0] at w0
    exact ⟨(s0, s1), rfl, str_wt w0⟩)
  refine ⟨l, rel_of_sl hl (fun p => [.str p.1, .str p.2]) (fun cs p hcs => by obtain ⟨rfl, _⟩ := hcs; exact .cons (.str _) (.cons (.str _) .nil)), ?_, fun p hp => ?_⟩
  · rw [bytesF] at hb
    have := reach47
    have h3 : reachBytes = 140737488351232 := rfl
    omega
  · obtain ⟨cs, _, h⟩ := sl_every hl hp
    exact h

theorem files_of_trod2 {H : Type} {enc : TypeId × Value → H} {w : World} {base : Nat} {spare : Nat → Bool} {held : Bool} {v : Value} {d : DataW H} {p : List MemPlace} (hv : ∃ a n c, v = .slice a n c) (h : DataW.Trod enc Tryd.prog w base spare held 32 v d p) (hw : WtOk Tryd.prog 32 d) :
    ∃ l : List Fl, Rel1 (σW w) v (.lst .any 2 (rowsF l)) ∧ l.length ≤ 4398046511103 ∧ ∀ p ∈ l, p.1.size ≤ 140737488355328 ∧ p.2.size ≤ 140737488355328 := by
  obtain ⟨a, n, c, rfl⟩ := hv
  obtain ⟨fuel, hf⟩ := h
  obtain ⟨l, hl, hb⟩ := sl_of_trodW (R := fun cs (p : Fl) => cs = [.string p.1, .string p.2] ∧ p.1.size ≤ 140737488355328 ∧ p.2.size ≤ 140737488355328) (x := (d, p)) Tryd.underlying32 cellsF (by decide) (v := .slice a n c) (fuel := fuel) (by simpa [Value.cells] using hf) hw (fun n cs y _ h hw => by
    obtain ⟨xs, m, hm, hy, hl, hxl, hf⟩ := DataW.trod_struct Tryd.underlying36 h
    rw [cellsF] at hl
    obtain ⟨c0, c1, rfl⟩ : ∃ a b, cs = [a, b] := by
      rcases cs with _ | ⟨a, _ | ⟨b, _ | ⟨c, l⟩⟩⟩ <;> simp at hl
      exact ⟨a, b, rfl⟩
    obtain ⟨x0, x1, rfl⟩ : ∃ a b, xs = [a, b] := by
      have hxl : xs.length = 2 := hxl
      rcases xs with _ | ⟨a, _ | ⟨b, _ | ⟨c, l⟩⟩⟩ <;> simp at hxl
      exact ⟨a, b, rfl⟩
    rw [hy] at hw
    have f0 : DataW.trod enc Tryd.prog w base spare held m 9 (List.take (Tryd.prog.cellsOf 9) (List.drop 0 [c0, c1])) = some x0 := hf 0 _ rfl
    have f1 : DataW.trod enc Tryd.prog w base spare held m 9 (List.take (Tryd.prog.cellsOf 9) (List.drop 1 [c0, c1])) = some x1 := hf 1 _ rfl
    have w0 : WtOk Tryd.prog 9 x0.1 := WtOk.part Tryd.underlying36 hw (j := 0) rfl rfl
    have w1 : WtOk Tryd.prog 9 x1.1 := WtOk.part Tryd.underlying36 hw (j := 1) rfl rfl
    simp only [cellsS, List.drop_succ_cons, List.drop_zero, List.take_succ_cons, List.take_zero] at f0 f1
    obtain ⟨s0, e0, hx0, _⟩ := DataW.trod_string Tryd.underlying9 f0
    obtain ⟨s1, e1, hx1, _⟩ := DataW.trod_string Tryd.underlying9 f1
    injection e0 with e0; injection e1 with e1
    subst e0 e1
    rw [hx0] at w0
    rw [hx1] at w1
    exact ⟨(s0, s1), rfl, str_wt w0, str_wt w1⟩)
  refine ⟨l, rel_of_sl hl (fun p => [.str p.1, .str p.2]) (fun cs p hcs => by obtain ⟨rfl, _⟩ := hcs; exact .cons (.str _) (.cons (.str _) .nil)), ?_, fun p hp => ?_⟩
  · rw [bytesF] at hb
    have := reach47
    have h3 : reachBytes = 140737488351232 := rfl
    omega
  · obtain ⟨cs, _, h⟩ := sl_every hl hp
    exact h

def pinV : DataW Unit → List Value
  | .agg l => l.map fun
    | .lit (.int k z) => .int k z
    | _ => undef
  | _ => []
def pinV2 : DataW Unit → List Value
  | .agg l => l.flatMap pinV
  | _ => []
noncomputable def laidHeap (os : Os) : Array Obj := setG (setG (setG (World.holding Tryd.prog os ⟨#[], #[], []⟩).heap gi_deBruijn32tab gv_deBruijn32tab) gi_deBruijn64tab gv_deBruijn64tab) gi_uint64pow10 gv_uint64pow10
noncomputable def laidWorld (os : Os) : World :=
  { World.holding Tryd.prog os ⟨#[], #[], []⟩ with heap := setG (setG (laidHeap os) 6 (pinV Rows.laid_unicode_utf8_first)) 7 (pinV2 Rows.laid_unicode_utf8_acceptRanges) }
end Go.Proofs.YtpcddcfpbohogaaDoor
