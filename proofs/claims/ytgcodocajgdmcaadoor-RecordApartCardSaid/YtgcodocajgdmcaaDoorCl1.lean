/-
  slices.Clone at values and at pairs: of a list that isn't empty a row made anew; of an empty one nothing.
-/
import Derived.Test.YtgcodocajgdmcaaDoorDriftE
import Derived.Test.YtgcodocajgdmcaaDoorEnc
import Derived.Test.YtgcodocajgdmcaaDoorLst
import Derived.WalkLawsBesides
import Derived.WalkSpells
import Derived.Deep.QuietTactic
import Derived.Lib.AppendZeros
import Derived.Laws.Cover3
namespace Go.Proofs.YtgcodocajgdmcaaDoor
set_option linter.unusedSimpArgs false
set_option linter.unusedVariables false
open Go.RowKit

theorem zeros_one {z : Array Value} (hz : ∀ u ∈ z.toList, u.oneCell' = true) (n : Nat) : ∀ u ∈ (Builtin.zeroCells z n).toList, u.oneCell' = true := by
  intro u hu
  simp only [Builtin.zeroCells, Array.toList_map, List.mem_map] at hu
  obtain ⟨i, hi, rfl⟩ := hu
  have hi2 : i < n * z.size := by simpa using hi
  have hp : 0 < z.size := by
    rcases Nat.eq_zero_or_pos z.size with h | h
    · rw [h] at hi2; omega
    · exact h
  have hlt : i % z.size < z.size := Nat.mod_lt _ hp
  rw [getElem!_pos z _ hlt]
  exact hz _ (by simp)
/-- a row in a new block -/
theorem FRowW.new {σ : Sg} {w w1 : World} (hh : Holds σ w) (hw : w.heap.size ≤ w1.heap.size) {e : TypeId} {news zs : List Value} {esz cap : Nat} {rows : List (List AV)} (hr : RelL σ news rows.flatten) (hl : ∀ c ∈ rows, c.length = esz) (hn : news.length = rows.length * esz) (hz : ∀ u ∈ zs, u.oneCell' = true)
    (hc : news.length + zs.length = cap * esz) (hle : rows.length ≤ cap) : FRowW σ (w1.alloc (.cells (news ++ zs).toArray e)) w1.heap.size cap esz rows := by
  refine ⟨e, _, heap_alloc_new w1 _, by simpa using hc, hle, hl, ?_, fun u hu => ?_, fun j => ?_⟩
  · rw [← hn]
    simpa using hr
  · rcases List.mem_append.1 (by simpa using hu) with h | h
    · exact hr.one u h
    · exact hz u h
  · cases hs : σ w1.heap.size j with
    | none => rfl
    | some v =>
      have := World.block_lt_of_cell? w _ (hh _ _ _ hs)
      simp at this
      omega
def zeroV : Value := .agg #[.int .i64 0, .bool false, .int .i64 0, .string ⟨#[]⟩, .slice none 0 0, .slice none 0 0]
theorem info_val : (Tryd.prog.info? 30).map (fun i => (i.zero, i.size, i.bytes)) = some (some zeroV, 6, 88) := by kernel_rfl
set_option maxRecDepth 100000 in
theorem cloneV_mf (rows : List (List AV)) (hne : 0 < rows.length) (hb : rows.length * 88 ≤ 140737488355328) : MF Tryd.prog 53 [.lst .any 6 rows] 6 rows := by
  refine ⟨a_slices_Clone_Value_cb, fun σ w vs hh hr hg => ?_⟩
  obtain ⟨v, rfl⟩ := List.length_eq_one_iff.1 hr.1
  have h1 : Rel1 σ v (.lst .any 6 rows) := hr.2 0 v _ rfl rfl
  obtain ⟨A, cap, b, o, news, rfl, hcap, hA, hsz, hnl, hrel, hcell⟩ := lst_cells h1
  have := hA hne
  subst this
  obtain ⟨i0, hi0, hz0, hzs, hzb⟩ := info_parts info_val
  obtain ⟨zs, hz1, hz2, hrun⟩ : ∃ zs : List Value, (∀ u ∈ zs, u.oneCell' = true) ∧ rows.length * 6 + zs.length = grownCap (w.alloc (.cells #[] 30)) (0 + rows.length) 0 30 * 6 ∧
      ∀ ty, (Builtin.append_ #[27, 27] ty #[.slice (some ⟨w.heap.size, 0, none⟩) 0 0, .slice (some ⟨b, o, none⟩) rows.length cap]).run Tryd.prog (w.alloc (.cells #[] 30)) =
        .ok (.slice (some ⟨w.heap.size + 1, 0, none⟩) rows.length (grownCap (w.alloc (.cells #[] 30)) (0 + rows.length) 0 30)) ((w.alloc (.cells #[] 30)).drew.alloc (.cells (news ++ zs).toArray 30)) := by
    have hge := grownCap_ge (w.alloc (.cells #[] 30)) (0 + rows.length) 0 30
    refine ⟨(Builtin.zeroCells zeroV.cells (grownCap (w.alloc (.cells #[] 30)) (0 + rows.length) 0 30 - (0 + rows.length))).toList, zeros_one (by simp [zeroV, Value.cells, Value.oneCell']) _, ?_, fun ty => ?_⟩
    · have : (zeroV.cells).size = 6 := rfl
      simp only [Array.length_toList, size_zeroCells, this]
      rw [← Nat.add_mul]
      congr 1
      omega
    · have := run_append_grow (w.alloc (.cells #[] 30)) 27 ty 30 i0 _ Tryd.underlying27 hi0 hz0 ⟨w.heap.size, 0, none⟩ 0 0 [] (by simp) (fun j v h => by simp at h) ⟨b, o, none⟩ rows.length cap news (by rw [hzs]; exact hnl)
        (fun j v hj => by
          rw [Addr.add_lit]
          have h2 := hh _ _ _ (hcell j v hj)
          rw [World.cell?_alloc_lt w _ _ (World.block_lt_of_cell? w _ h2)]
          exact h2) (by omega) (by omega) (by rw [hzb]; exact growslice_fits (by omega) (by omega))
      rw [this]
      simp
      congr 2
      apply Array.ext'
      simp
  have q24 : ∀ (w : World) (a : Option Addr) (n c : Nat), (binOp .eql 27 (.slice a n c) (.slice none 0 0)).run Tryd.prog w = .ok (.bool a.isNone) w := fun w a n c => by simp [binOp, run_equal_slice_nil w _ _ a n c Tryd.underlying27]
  go_enter Tryd.func53, Tryd.ntmps53
  go_wp2_with (at_builtin; refine Lib.wpList_append_run _ rfl _ _ _ _ rfl _ _ rfl rfl _ _ (hrun _) ?_)
  go_wp2
  go_ret
  have hge := grownCap_ge (w.alloc (.cells #[] 30)) (0 + rows.length) 0 30
  have hbl : Below w.heap.size w ((w.alloc (.cells #[] 30)).drew.alloc (.cells (news ++ zs).toArray 30)) := (((Below.refl _ _).alloc (Nat.le_refl _) _).drew).alloc (by simp) _
  exact ⟨σ, w.heap.size + 1, _, rfl, Ext.refl _ _, fun b q v hv => (hbl.cell (p := ⟨b, q, none⟩) (World.block_lt_of_cell? w _ (hh _ _ _ hv))).trans (hh _ _ _ hv), hbl, by omega,
    by
      have := FRowW.new (w1 := (w.alloc (.cells #[] 30)).drew) hh (by simp) (e := 30) hrel hsz hnl hz1 (by rw [hnl]; exact hz2) (by omega)
      have e : (w.alloc (.cells #[] 30)).drew.heap.size = w.heap.size + 1 := by simp
      rw [e, Nat.zero_add] at this
      exact this⟩
def zeroP : Value := .agg #[.string ⟨#[]⟩, .int .i64 0, .bool false, .int .i64 0, .string ⟨#[]⟩, .slice none 0 0, .slice none 0 0]
theorem info_pair : (Tryd.prog.info? 73).map (fun i => (i.zero, i.size, i.bytes)) = some (some zeroP, 7, 104) := by kernel_rfl
set_option maxRecDepth 100000 in
theorem cloneP_mf (rows : List (List AV)) (hne : 0 < rows.length) (hb : rows.length * 104 ≤ 140737488355328) : MF Tryd.prog 54 [.lst .any 7 rows] 7 rows := by
  refine ⟨a_slices_Clone_Pair_cb, fun σ w vs hh hr hg => ?_⟩
  obtain ⟨v, rfl⟩ := List.length_eq_one_iff.1 hr.1
  have h1 : Rel1 σ v (.lst .any 7 rows) := hr.2 0 v _ rfl rfl
  obtain ⟨A, cap, b, o, news, rfl, hcap, hA, hsz, hnl, hrel, hcell⟩ := lst_cells h1
  have := hA hne
  subst this
  obtain ⟨i0, hi0, hz0, hzs, hzb⟩ := info_parts info_pair
  obtain ⟨zs, hz1, hz2, hrun⟩ : ∃ zs : List Value, (∀ u ∈ zs, u.oneCell' = true) ∧ rows.length * 7 + zs.length = grownCap (w.alloc (.cells #[] 73)) (0 + rows.length) 0 73 * 7 ∧
      ∀ ty, (Builtin.append_ #[28, 28] ty #[.slice (some ⟨w.heap.size, 0, none⟩) 0 0, .slice (some ⟨b, o, none⟩) rows.length cap]).run Tryd.prog (w.alloc (.cells #[] 73)) =
        .ok (.slice (some ⟨w.heap.size + 1, 0, none⟩) rows.length (grownCap (w.alloc (.cells #[] 73)) (0 + rows.length) 0 73)) ((w.alloc (.cells #[] 73)).drew.alloc (.cells (news ++ zs).toArray 73)) := by
    have hge := grownCap_ge (w.alloc (.cells #[] 73)) (0 + rows.length) 0 73
    refine ⟨(Builtin.zeroCells zeroP.cells (grownCap (w.alloc (.cells #[] 73)) (0 + rows.length) 0 73 - (0 + rows.length))).toList, zeros_one (by simp [zeroP, Value.cells, Value.oneCell']) _, ?_, fun ty => ?_⟩
    · have : (zeroP.cells).size = 7 := rfl
      simp only [Array.length_toList, size_zeroCells, this]
      rw [← Nat.add_mul]
      congr 1
      omega
    · have := run_append_grow (w.alloc (.cells #[] 73)) 28 ty 73 i0 _ Tryd.underlying28 hi0 hz0 ⟨w.heap.size, 0, none⟩ 0 0 [] (by simp) (fun j v h => by simp at h) ⟨b, o, none⟩ rows.length cap news (by rw [hzs]; exact hnl)
        (fun j v hj => by
          rw [Addr.add_lit]
          have h2 := hh _ _ _ (hcell j v hj)
          rw [World.cell?_alloc_lt w _ _ (World.block_lt_of_cell? w _ h2)]
          exact h2) (by omega) (by omega) (by rw [hzb]; exact growslice_fits (by omega) (by omega))
      rw [this]
      simp
      congr 2
      apply Array.ext'
      simp
  have q24 : ∀ (w : World) (a : Option Addr) (n c : Nat), (binOp .eql 28 (.slice a n c) (.slice none 0 0)).run Tryd.prog w = .ok (.bool a.isNone) w := fun w a n c => by simp [binOp, run_equal_slice_nil w _ _ a n c Tryd.underlying28]
  go_enter Tryd.func54, Tryd.ntmps54
  go_wp2_with (at_builtin; refine Lib.wpList_append_run _ rfl _ _ _ _ rfl _ _ rfl rfl _ _ (hrun _) ?_)
  go_wp2
  go_ret
  have hge := grownCap_ge (w.alloc (.cells #[] 73)) (0 + rows.length) 0 73
  have hbl : Below w.heap.size w ((w.alloc (.cells #[] 73)).drew.alloc (.cells (news ++ zs).toArray 73)) := (((Below.refl _ _).alloc (Nat.le_refl _) _).drew).alloc (by simp) _
  exact ⟨σ, w.heap.size + 1, _, rfl, Ext.refl _ _, fun b q v hv => (hbl.cell (p := ⟨b, q, none⟩) (World.block_lt_of_cell? w _ (hh _ _ _ hv))).trans (hh _ _ _ hv), hbl, by omega,
    by
      have := FRowW.new (w1 := (w.alloc (.cells #[] 73)).drew) hh (by simp) (e := 73) hrel hsz hnl hz1 (by rw [hnl]; exact hz2) (by omega)
      have e : (w.alloc (.cells #[] 73)).drew.heap.size = w.heap.size + 1 := by simp
      rw [e, Nat.zero_add] at this
      exact this⟩
set_option maxRecDepth 100000 in
theorem cloneV_nil : AC Tryd.prog 53 [.lst .any 6 []] (.lst .any 6 []) := by
  refine ⟨a_slices_Clone_Value_cb, fun σ w vs hh hr hg => ?_⟩
  obtain ⟨v, rfl⟩ := List.length_eq_one_iff.1 hr.1
  have h1 : Rel1 σ v (.lst .any 6 []) := hr.2 0 v _ rfl rfl
  obtain ⟨A, cap, b, o, news, rfl, _⟩ := lst_cells h1
  have q24 : ∀ (w : World) (a : Option Addr) (n c : Nat), (binOp .eql 27 (.slice a n c) (.slice none 0 0)).run Tryd.prog w = .ok (.bool a.isNone) w := fun w a n c => by simp [binOp, run_equal_slice_nil w _ _ a n c Tryd.underlying27]
  obtain ⟨i0, hi0, _⟩ := info_parts info_val
  have hrel : ∀ (A : Option Addr) (cap : Nat), RelR σ (.slice A 0 cap) (.lst .any 6 []) := fun A cap => .lst .any 6 [] A 0 cap 0 0 (fun _ _ => undef) rfl (by omega) (fun h => by omega) (fun i c h => by simp at h) (fun i j h => by omega) (fun i j c a h => by simp at h) trivial
  cases A with
  | none =>
    go_enter Tryd.func53, Tryd.ntmps53
    go_wp2
    go_ret
    exact ⟨σ, _, rfl, Ext.refl _ _, hh, Below.refl _ _, hrel none 0⟩
  | some a =>
    have hrun := fun ty => run_append_zero (P := Tryd.prog) (w.alloc (.cells #[] 30)) 27 ty 30 Tryd.underlying27 hi0 (some ⟨w.heap.size, 0, none⟩) (some a) 0 0 cap (by omega)
    go_enter Tryd.func53, Tryd.ntmps53
    go_wp2_with (at_builtin; refine Lib.wpList_append_run _ rfl _ _ _ _ rfl _ _ rfl rfl _ _ (hrun _) ?_)
    go_wp2
    go_ret
    have hbl : Below w.heap.size w (w.alloc (.cells #[] 30)) := (Below.refl _ _).alloc (Nat.le_refl _) _
    exact ⟨σ, _, rfl, Ext.refl _ _, fun b q v hv => (hbl.cell (p := ⟨b, q, none⟩) (World.block_lt_of_cell? w _ (hh _ _ _ hv))).trans (hh _ _ _ hv), hbl, hrel _ _⟩
set_option maxRecDepth 100000 in
theorem cloneP_nil : AC Tryd.prog 54 [.lst .any 7 []] (.lst .any 7 []) := by
  refine ⟨a_slices_Clone_Pair_cb, fun σ w vs hh hr hg => ?_⟩
  obtain ⟨v, rfl⟩ := List.length_eq_one_iff.1 hr.1
  have h1 : Rel1 σ v (.lst .any 7 []) := hr.2 0 v _ rfl rfl
  obtain ⟨A, cap, b, o, news, rfl, _⟩ := lst_cells h1
  have q24 : ∀ (w : World) (a : Option Addr) (n c : Nat), (binOp .eql 28 (.slice a n c) (.slice none 0 0)).run Tryd.prog w = .ok (.bool a.isNone) w := fun w a n c => by simp [binOp, run_equal_slice_nil w _ _ a n c Tryd.underlying28]
  obtain ⟨i0, hi0, _⟩ := info_parts info_pair
  have hrel : ∀ (A : Option Addr) (cap : Nat), RelR σ (.slice A 0 cap) (.lst .any 7 []) := fun A cap => .lst .any 7 [] A 0 cap 0 0 (fun _ _ => undef) rfl (by omega) (fun h => by omega) (fun i c h => by simp at h) (fun i j h => by omega) (fun i j c a h => by simp at h) trivial
  cases A with
  | none =>
    go_enter Tryd.func54, Tryd.ntmps54
    go_wp2
    go_ret
    exact ⟨σ, _, rfl, Ext.refl _ _, hh, Below.refl _ _, hrel none 0⟩
  | some a =>
    have hrun := fun ty => run_append_zero (P := Tryd.prog) (w.alloc (.cells #[] 73)) 28 ty 73 Tryd.underlying28 hi0 (some ⟨w.heap.size, 0, none⟩) (some a) 0 0 cap (by omega)
    go_enter Tryd.func54, Tryd.ntmps54
    go_wp2_with (at_builtin; refine Lib.wpList_append_run _ rfl _ _ _ _ rfl _ _ rfl rfl _ _ (hrun _) ?_)
    go_wp2
    go_ret
    have hbl : Below w.heap.size w (w.alloc (.cells #[] 73)) := (Below.refl _ _).alloc (Nat.le_refl _) _
    exact ⟨σ, _, rfl, Ext.refl _ _, fun b q v hv => (hbl.cell (p := ⟨b, q, none⟩) (World.block_lt_of_cell? w _ (hh _ _ _ hv))).trans (hh _ _ _ hv), hbl, hrel _ _⟩
end Go.Proofs.YtgcodocajgdmcaaDoor
