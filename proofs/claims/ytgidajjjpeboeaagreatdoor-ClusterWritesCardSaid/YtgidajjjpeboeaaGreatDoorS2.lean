/-
  The texts that the claim wants, one behind the other: part 2.
-/
import Derived.Test.YtgidajjjpeboeaaGreatDoorS1
import Derived.Laws.CopyOwn
import Derived.OwnWalk
import Derived.Maps.AppendAt
set_option linter.unusedSimpArgs false
set_option linter.unusedVariables false
namespace Go.Proofs.YtgidajjjpeboeaaGreatDoor
open Go.RowKit
def gl_0 : List Value := [.string ⟨#[78, 97, 109, 101, 115, 112, 97, 99, 101]⟩, .string ⟨#[83, 101, 99, 114, 101, 116]⟩, .string ⟨#[67, 111, 110, 102, 105, 103, 77, 97, 112]⟩, .string ⟨#[86, 111, 108, 117, 109, 101]⟩, .string ⟨#[65, 99, 99, 111, 117, 110, 116]⟩, .string ⟨#[82, 111, 108, 101]⟩, .string ⟨#[83, 101, 114, 118, 105, 99, 101]⟩, .string ⟨#[68, 101, 112, 108, 111, 121, 109, 101, 110, 116]⟩, .string ⟨#[74, 111, 98]⟩, .string ⟨#[73, 110, 103, 114, 101, 115, 115]⟩]
abbrev gv_order : List Value := gl_0
abbrev gi_order : Nat := 0
def globL : List (Nat × List Value) := [(0, gl_0)]
def globI : List Nat := []
def globZ : List Nat := [1]
structure GW (w : World) : Prop where
 cells : ∀ x ∈ globL, ∃ ty fr, w.heap[x.1]? = some (.cells x.2.toArray ty fr)
 ifc : ∀ g ∈ globI, ∃ ev ty fr, w.heap[g]? = some (.cells #[ev] ty fr) ∧ (ev = .nilIface ∨ ∃ te pe, ev = .iface te pe)
 num : ∀ g ∈ globZ, ∃ m, w.cell? ⟨g, 0, none⟩ = some (.int .i64 m)
theorem GW.below {w w' : World} (h : GW w) (hb : Below w.heap.size w w') : GW w' where
 cells := fun x hx => by
  obtain ⟨ty, fr, h1⟩ := h.cells x hx
  exact ⟨ty, fr, (hb.block _ (Array.getElem?_eq_some_iff.1 h1).1).trans h1⟩
 ifc := fun g hx => by
  obtain ⟨ev, ty, fr, h1, h2⟩ := h.ifc g hx
  exact ⟨ev, ty, fr, (hb.block _ (Array.getElem?_eq_some_iff.1 h1).1).trans h1, h2⟩
 num := fun g hx => by
  obtain ⟨m, h1⟩ := h.num g hx
  exact ⟨m, (hb.cell (p := ⟨g, 0, none⟩) (World.block_lt_of_cell? w _ h1)).trans h1⟩
theorem GW.cell {w : World} (h : GW w) {g : Nat} {l : List Value} (hm : (g, l) ∈ globL) (j : Nat) : w.cell? ⟨g, j, none⟩ = l[j]? := by
 obtain ⟨ty, fr, h1⟩ := h.cells _ hm
 rw [cell_of_row w g j l.toArray ty fr h1]
 simp
end Go.Proofs.YtgidajjjpeboeaaGreatDoor
