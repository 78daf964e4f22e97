/-
  A world for the witness: the listed variables laid.
-/
import Derived.Test.YtfnpjakekeojoaaGreatDoorArg
import Derived.Test.YtfnpjakekeojoaaGreatDoorGl
namespace Go.Proofs.YtfnpjakekeojoaaGreatDoor
set_option linter.unusedSimpArgs false
set_option linter.unusedVariables false
open Go.ChangeShapes Go.WideShapes Go.ChangeAt Go.RowKit Go.Deep

def pinV : DataW Unit → List Value
  | .agg l => l.map fun
    | .lit (.int k z) => .int k z
    | _ => undef
  | _ => []
def pinV2 : DataW Unit → List Value
  | .agg l => l.flatMap pinV
  | _ => []
noncomputable def laidHeap0 (os : Os) : Array Obj := setG (setG (setG (World.holding Tryz.prog os ⟨#[], #[], []⟩).heap gi_deBruijn32tab gv_deBruijn32tab) gi_deBruijn64tab gv_deBruijn64tab) gi_uint64pow10 gv_uint64pow10
noncomputable def laidHeap (os : Os) : Array Obj := setG (setG (laidHeap0 os) 3 (pinV Rows.laid_unicode_utf8_first)) 4 (pinV2 Rows.laid_unicode_utf8_acceptRanges)
noncomputable def laidWorld (os : Os) : World :=
  { World.holding Tryz.prog os ⟨#[], #[], []⟩ with heap := setG (setG (laidHeap os) gi_ErrRange [.iface 127 (.pointer (some ⟨(laidHeap os).size, 0, none⟩))]) gi_ErrSyntax [.iface 127 (.pointer (some ⟨(laidHeap os).size + 1, 0, none⟩))]
      ++ #[.cells #[.string ⟨#[118, 97, 108, 117, 101, 32, 111, 117, 116, 32, 111, 102, 32, 114, 97, 110, 103, 101]⟩] 129 (0, 0), .cells #[.string ⟨#[105, 110, 118, 97, 108, 105, 100, 32, 115, 121, 110, 116, 97, 120]⟩] 129 (0, 0)] }
theorem RelPs.one {σ : Sg} {a : Value} {x : AV} (h : RelP σ a x) : RelPs σ [a] [x] := by
  refine ⟨rfl, fun j v w hv hu => ?_⟩
  rcases j with _ | j <;> simp at hv hu
  subst hv hu; exact h
end Go.Proofs.YtfnpjakekeojoaaGreatDoor
