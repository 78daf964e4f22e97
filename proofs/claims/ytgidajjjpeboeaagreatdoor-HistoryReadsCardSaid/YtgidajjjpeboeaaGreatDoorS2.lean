/-
  The texts that the claim wants, one behind the other: part 2.
-/
import Derived.Test.YtgidajjjpeboeaaGreatDoorS1
import Derived.Laws.CopyOwn
import Derived.OwnWalk
import Derived.Maps.AppendAt
set_option linter.unusedSimpArgs false
set_option linter.unusedVariables false
namespace Go.Proofs.YtgidajjjpeboeaaGreatDoor
open Go.RowKit
def gl_5 : List Value := [.int .u8 0, .int .u8 1, .int .u8 28, .int .u8 2, .int .u8 29, .int .u8 14, .int .u8 24, .int .u8 3, .int .u8 30, .int .u8 22, .int .u8 20, .int .u8 15, .int .u8 25, .int .u8 17, .int .u8 4, .int .u8 8, .int .u8 31, .int .u8 27, .int .u8 13, .int .u8 23, .int .u8 21, .int .u8 19, .int .u8 16, .int .u8 7, .int .u8 26, .int .u8 12, .int .u8 18, .int .u8 6, .int .u8 11, .int .u8 5, .int .u8 10, .int .u8 9]
def gl_6 : List Value := [.int .u8 0, .int .u8 1, .int .u8 56, .int .u8 2, .int .u8 57, .int .u8 49, .int .u8 28, .int .u8 3, .int .u8 61, .int .u8 58, .int .u8 42, .int .u8 50, .int .u8 38, .int .u8 29, .int .u8 17, .int .u8 4, .int .u8 62, .int .u8 47, .int .u8 59, .int .u8 36, .int .u8 45, .int .u8 43, .int .u8 51, .int .u8 22, .int .u8 53, .int .u8 39, .int .u8 33, .int .u8 30, .int .u8 24, .int .u8 18, .int .u8 12, .int .u8 5, .int .u8 63, .int .u8 55, .int .u8 48, .int .u8 27, .int .u8 60, .int .u8 41, .int .u8 37, .int .u8 16, .int .u8 46, .int .u8 35, .int .u8 44, .int .u8 21, .int .u8 52, .int .u8 32, .int .u8 23, .int .u8 11, .int .u8 54, .int .u8 26, .int .u8 40, .int .u8 15, .int .u8 34, .int .u8 20, .int .u8 31, .int .u8 10, .int .u8 25, .int .u8 14, .int .u8 19, .int .u8 9, .int .u8 13, .int .u8 8, .int .u8 7, .int .u8 6]
def gl_4 : List Value := [.int .u64 1, .int .u64 10, .int .u64 100, .int .u64 1000, .int .u64 10000, .int .u64 100000, .int .u64 1000000, .int .u64 10000000, .int .u64 100000000, .int .u64 1000000000, .int .u64 10000000000, .int .u64 100000000000, .int .u64 1000000000000, .int .u64 10000000000000, .int .u64 100000000000000, .int .u64 1000000000000000, .int .u64 10000000000000000, .int .u64 100000000000000000, .int .u64 1000000000000000000, .int .u64 10000000000000000000]
def gl_0 : List Value := [.string ⟨#[78, 97, 109, 101, 115, 112, 97, 99, 101]⟩, .string ⟨#[83, 101, 99, 114, 101, 116]⟩, .string ⟨#[67, 111, 110, 102, 105, 103, 77, 97, 112]⟩, .string ⟨#[86, 111, 108, 117, 109, 101]⟩, .string ⟨#[65, 99, 99, 111, 117, 110, 116]⟩, .string ⟨#[82, 111, 108, 101]⟩, .string ⟨#[83, 101, 114, 118, 105, 99, 101]⟩, .string ⟨#[68, 101, 112, 108, 111, 121, 109, 101, 110, 116]⟩, .string ⟨#[74, 111, 98]⟩, .string ⟨#[73, 110, 103, 114, 101, 115, 115]⟩]
abbrev gv_deBruijn32tab : List Value := gl_5
abbrev gi_deBruijn32tab : Nat := 5
abbrev gv_deBruijn64tab : List Value := gl_6
abbrev gi_deBruijn64tab : Nat := 6
abbrev gv_uint64pow10 : List Value := gl_4
abbrev gi_uint64pow10 : Nat := 4
abbrev gv_order : List Value := gl_0
abbrev gi_order : Nat := 0
def globL : List (Nat × List Value) := [(5, gl_5), (6, gl_6), (4, gl_4), (0, gl_0)]
def globI : List Nat := [3, 2]
def globZ : List Nat := [1]
abbrev gi_ErrRange : Nat := 3
abbrev gi_ErrSyntax : Nat := 2
structure GW (w : World) : Prop where
 cells : ∀ x ∈ globL, ∃ ty fr, w.heap[x.1]? = some (.cells x.2.toArray ty fr)
 ifc : ∀ g ∈ globI, ∃ ev ty fr, w.heap[g]? = some (.cells #[ev] ty fr) ∧ (ev = .nilIface ∨ ∃ te pe, ev = .iface te pe)
 num : ∀ g ∈ globZ, ∃ m, w.cell? ⟨g, 0, none⟩ = some (.int .i64 m)
theorem GW.below {w w' : World} (h : GW w) (hb : Below w.heap.size w w') : GW w' where
 cells := fun x hx => by
  obtain ⟨ty, fr, h1⟩ := h.cells x hx
  exact ⟨ty, fr, (hb.block _ (Array.getElem?_eq_some_iff.1 h1).1).trans h1⟩
 ifc := fun g hx => by
  obtain ⟨ev, ty, fr, h1, h2⟩ := h.ifc g hx
  exact ⟨ev, ty, fr, (hb.block _ (Array.getElem?_eq_some_iff.1 h1).1).trans h1, h2⟩
 num := fun g hx => by
  obtain ⟨m, h1⟩ := h.num g hx
  exact ⟨m, (hb.cell (p := ⟨g, 0, none⟩) (World.block_lt_of_cell? w _ h1)).trans h1⟩
theorem GW.cell {w : World} (h : GW w) {g : Nat} {l : List Value} (hm : (g, l) ∈ globL) (j : Nat) : w.cell? ⟨g, j, none⟩ = l[j]? := by
 obtain ⟨ty, fr, h1⟩ := h.cells _ hm
 rw [cell_of_row w g j l.toArray ty fr h1]
 simp
theorem GW.ifc_cell {w : World} (h : GW w) {g : Nat} (hm : g ∈ globI) : ∃ ev, w.cell? ⟨g, 0, none⟩ = some ev ∧ (ev = .nilIface ∨ ∃ te pe, ev = .iface te pe) := by
 obtain ⟨ev, ty, fr, h1, h2⟩ := h.ifc g hm
 exact ⟨ev, by rw [cell_of_row w g 0 #[ev] ty fr h1]; rfl, h2⟩
end Go.Proofs.YtgidajjjpeboeaaGreatDoor
