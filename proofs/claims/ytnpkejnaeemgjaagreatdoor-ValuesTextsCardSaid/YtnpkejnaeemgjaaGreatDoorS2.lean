/-
  The texts that the claim wants, one behind the other: part 2.
-/
import Derived.Test.YtnpkejnaeemgjaaGreatDoorS1
import Derived.Laws.CopyOwn
import Derived.OwnWalk
import Derived.Maps.AppendAt
set_option linter.unusedSimpArgs false
set_option linter.unusedVariables false
namespace Go.Proofs.YtnpkejnaeemgjaaGreatDoor
open Go.RowKit
def Blk (w : World) (g : Nat) (t : TypeId) (cs : Array Value) : Prop := w.heap[g]? = some (.cells cs t (0, 0))
section
variable {w w' : World} {g : Nat} {t : TypeId} {cs : Array Value}
theorem Blk.lt (h : Blk w g t cs) : g < w.heap.size := (Array.getElem?_eq_some_iff.1 h).1
theorem Blk.cell (h : Blk w g t cs) (i : Nat) : w.cell? ⟨g, i, none⟩ = cs[i]? := cell_of_row w g i cs t (0, 0) h
theorem Blk.frozen (h : Blk w g t cs) (i : Nat) : w.frozen? ⟨g, i, none⟩ = false := frozen_of_row w g i cs t h
theorem Blk.new (w : World) (t : TypeId) (cs : Array Value) {k : Nat} (hk : w.heap.size = k) : Blk (w.alloc (.cells cs t)) k t cs := by subst hk; exact heap_alloc_new w _
theorem Blk.alloc (h : Blk w g t cs) (o : Obj) : Blk (w.alloc o) g t cs := (Below.heap_alloc w o g h.lt).trans h
theorem Blk.far (h : Blk w g t cs) {p : Addr} (hp : g ≠ p.block) (u : Value) : Blk (w.setCell p u) g t cs := (Below.heap_setCell w p u g hp).trans h
theorem Blk.below {B : Nat} (h : Blk w g t cs) (hb : Below B w w') (hg : g < B) : Blk w' g t cs := (hb.block g hg).trans h
theorem Blk.set (h : Blk w g t cs) (vs : Array Value) : Blk (w.setRow g vs) g t vs := setRow_heap w g cs vs t (0, 0) h
theorem Blk.setOther (h : Blk w g t cs) {g' : Nat} (hne : g ≠ g') (vs : Array Value) : Blk (w.setRow g' vs) g t cs := (setRow_other w g' g vs hne).trans h
theorem Blk.setCell (h : Blk w g t cs) (i : Nat) (v : Value) : Blk (w.setCell ⟨g, i, none⟩ v) g t (cs.setIfInBounds i v) := heap_setCell_same w g i cs t v h
end
section
variable {P : Program}
theorem run_storeVar_row (w : World) (g : Nat) (t ty : TypeId) (cs vs : Array Value) (hg : w.heap[g]? = some (.cells cs t (0, 0))) (hs : vs.size = cs.size) (h1 : ∀ u ∈ vs.toList, u.oneCell' = true)
  (hi : (P.info? ty).map (·.size) = some vs.size) : (storeVar ty ⟨g, 0, none⟩ (.agg vs)).run P w = .ok () (w.setRow g vs) := by
 have h := run_storeCells_at P g 0 t vs.toList 0 cs w hg (by simp [hs]) h1
 cases hq : P.info? ty with
 | none => simp [hq] at hi
 | some i =>
  have hz : i.size = vs.size := by simpa [hq] using hi
  have e : (cs.toList.take (0 + 0) ++ vs.toList ++ cs.toList.drop (0 + 0 + vs.toList.length)).toArray = vs := by
   rw [List.drop_eq_nil_of_le (by simp [hs])]
   simp
  rw [e] at h
  have hvc : (Value.agg vs).cells = vs := rfl
  simp [storeVar, sizeOf, typeInfo, hq, hz, hvc, h]
theorem wpList_store_row {ops : Array Oper} {rest : List Oper} {tmps : Array Value} {df : List Deferred} {w : World} {Q : Exit → Act → World → Prop} {d : Option Tmp} {ty0 : TypeId} {ps : String} {af : Array Edge}
  (p q : Tmp) (ty : TypeId) (g : Nat) (t : TypeId) (cs vs : Array Value) (hp : tmps.getD p undef = .pointer (some ⟨g, 0, none⟩)) (hq : tmps.getD q undef = .agg vs) (hg : Blk w g t cs) (hs : vs.size = cs.size) (h1 : ∀ u ∈ vs.toList, u.oneCell' = true)
  (hi : (P.info? ty).map (·.size) = some vs.size)
  (h : wpList P ops Q rest (({ tmps := tmps, defers := df } : Act).put d undef) (w.setRow g vs)) :
  wpList P ops Q ({ dst := d, op := .store ty (.tmp p) (.tmp q), type := ty0, pos := ps, after := af, guard := none } :: rest) { tmps := tmps, defers := df } w := by
 refine wpList_plain rfl fun K hK => ?_
 have hrun := run_storeVar_row (P := P) w g t ty cs vs hg hs h1 hi
 have e1 : ({ tmps := tmps, defers := df } : Act).eval (.tmp p) = .pointer (some ⟨g, 0, none⟩) := hp
 have e2 : ({ tmps := tmps, defers := df } : Act).eval (.tmp q) = .agg vs := hq
 unfold Oper.wp execOp
 simp only [e1, e2, Instr.storeAt, Instr.sureAddr, Sem.run_bind, Sem.run_pure, Result.andThen_ok, hrun]
 exact hK _ _ h
theorem results_cell_tmp_row {fn : Func} {p u : Tmp} {ty : TypeId} (h : fn.results = #[.cell p ty, .tmp u]) (tmps : Array Value) (w : World) (g : Nat) (t : TypeId) (cs : Array Value) (d : TypeDesc)
  (hp : tmps.getD p undef = .pointer (some ⟨g, 0, none⟩)) (hg : Blk w g t cs)
  (hu : P.underlying ty = some d) (hd : (match d with | .struct _ | .array _ _ => true | _ => false) = true) (hi : (P.info? ty).map (·.size) = some cs.size) :
  (results fn tmps).run P w = .ok (.tuple #[.agg cs, tmps.getD u undef]) w := by
 have hp' : tmps[p]?.getD undef = .pointer (some ⟨g, 0, none⟩) := by simpa using hp
 rw [results_cell_tmp h]
 simp [hp', asAddr, run_loadVar_row w g t ty cs (0, 0) d hg hu hd hi]
end
section
variable {P : Program}
end
def gl_6 : List Value := [.int .u8 0, .int .u8 1, .int .u8 28, .int .u8 2, .int .u8 29, .int .u8 14, .int .u8 24, .int .u8 3, .int .u8 30, .int .u8 22, .int .u8 20, .int .u8 15, .int .u8 25, .int .u8 17, .int .u8 4, .int .u8 8, .int .u8 31, .int .u8 27, .int .u8 13, .int .u8 23, .int .u8 21, .int .u8 19, .int .u8 16, .int .u8 7, .int .u8 26, .int .u8 12, .int .u8 18, .int .u8 6, .int .u8 11, .int .u8 5, .int .u8 10, .int .u8 9]
def gl_7 : List Value := [.int .u8 0, .int .u8 1, .int .u8 56, .int .u8 2, .int .u8 57, .int .u8 49, .int .u8 28, .int .u8 3, .int .u8 61, .int .u8 58, .int .u8 42, .int .u8 50, .int .u8 38, .int .u8 29, .int .u8 17, .int .u8 4, .int .u8 62, .int .u8 47, .int .u8 59, .int .u8 36, .int .u8 45, .int .u8 43, .int .u8 51, .int .u8 22, .int .u8 53, .int .u8 39, .int .u8 33, .int .u8 30, .int .u8 24, .int .u8 18, .int .u8 12, .int .u8 5, .int .u8 63, .int .u8 55, .int .u8 48, .int .u8 27, .int .u8 60, .int .u8 41, .int .u8 37, .int .u8 16, .int .u8 46, .int .u8 35, .int .u8 44, .int .u8 21, .int .u8 52, .int .u8 32, .int .u8 23, .int .u8 11, .int .u8 54, .int .u8 26, .int .u8 40, .int .u8 15, .int .u8 34, .int .u8 20, .int .u8 31, .int .u8 10, .int .u8 25, .int .u8 14, .int .u8 19, .int .u8 9, .int .u8 13, .int .u8 8, .int .u8 7, .int .u8 6]
def gl_5 : List Value := [.int .u64 1, .int .u64 10, .int .u64 100, .int .u64 1000, .int .u64 10000, .int .u64 100000, .int .u64 1000000, .int .u64 10000000, .int .u64 100000000, .int .u64 1000000000, .int .u64 10000000000, .int .u64 100000000000, .int .u64 1000000000000, .int .u64 10000000000000, .int .u64 100000000000000, .int .u64 1000000000000000, .int .u64 10000000000000000, .int .u64 100000000000000000, .int .u64 1000000000000000000, .int .u64 10000000000000000000]
abbrev gv_deBruijn32tab : List Value := gl_6
abbrev gi_deBruijn32tab : Nat := 6
abbrev gv_deBruijn64tab : List Value := gl_7
abbrev gi_deBruijn64tab : Nat := 7
abbrev gv_uint64pow10 : List Value := gl_5
abbrev gi_uint64pow10 : Nat := 5
def globL : List (Nat × List Value) := [(6, gl_6), (7, gl_7), (5, gl_5)]
def globI : List Nat := [2, 1]
def globZ : List Nat := [0]
abbrev gi_ErrRange : Nat := 2
abbrev gi_ErrSyntax : Nat := 1
structure GW (w : World) : Prop where
 cells : ∀ x ∈ globL, ∃ ty fr, w.heap[x.1]? = some (.cells x.2.toArray ty fr)
 ifc : ∀ g ∈ globI, ∃ ev ty fr, w.heap[g]? = some (.cells #[ev] ty fr) ∧ (ev = .nilIface ∨ ∃ te pe, ev = .iface te pe)
 num : ∀ g ∈ globZ, ∃ m, w.cell? ⟨g, 0, none⟩ = some (.int .i64 m)
theorem GW.below {w w' : World} (h : GW w) (hb : Below w.heap.size w w') : GW w' where
 cells := fun x hx => by
  obtain ⟨ty, fr, h1⟩ := h.cells x hx
  exact ⟨ty, fr, (hb.block _ (Array.getElem?_eq_some_iff.1 h1).1).trans h1⟩
 ifc := fun g hx => by
  obtain ⟨ev, ty, fr, h1, h2⟩ := h.ifc g hx
  exact ⟨ev, ty, fr, (hb.block _ (Array.getElem?_eq_some_iff.1 h1).1).trans h1, h2⟩
 num := fun g hx => by
  obtain ⟨m, h1⟩ := h.num g hx
  exact ⟨m, (hb.cell (p := ⟨g, 0, none⟩) (World.block_lt_of_cell? w _ h1)).trans h1⟩
theorem GW.ifc_cell {w : World} (h : GW w) {g : Nat} (hm : g ∈ globI) : ∃ ev, w.cell? ⟨g, 0, none⟩ = some ev ∧ (ev = .nilIface ∨ ∃ te pe, ev = .iface te pe) := by
 obtain ⟨ev, ty, fr, h1, h2⟩ := h.ifc g hm
 exact ⟨ev, by rw [cell_of_row w g 0 #[ev] ty fr h1]; rfl, h2⟩
end Go.Proofs.YtnpkejnaeemgjaaGreatDoor
