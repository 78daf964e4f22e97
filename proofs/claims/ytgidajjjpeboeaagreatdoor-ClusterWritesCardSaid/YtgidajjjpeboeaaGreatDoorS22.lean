/-
  The texts that the claim wants, one behind the other: part 22.
-/
import Derived.Test.YtgidajjjpeboeaaGreatDoorS21
import Derived.WalkLawsBesides
import Derived.WalkSpells
import Derived.Deep.QuietTactic
import Derived.Lib.AppendZeros
import Derived.Laws.Cover3
set_option linter.unusedSimpArgs false
set_option linter.unusedVariables false
namespace Go.Proofs.YtgidajjjpeboeaaGreatDoor
open Go.RowKit
theorem zeros_one {z : Array Value} (hz : ∀ u ∈ z.toList, u.oneCell' = true) (n : Nat) : ∀ u ∈ (Builtin.zeroCells z n).toList, u.oneCell' = true := by
 intro u hu
 simp only [Builtin.zeroCells, Array.toList_map, List.mem_map] at hu
 obtain ⟨i, hi, rfl⟩ := hu
 have hi2 : i < n * z.size := by simpa using hi
 have hp : 0 < z.size := by
  rcases Nat.eq_zero_or_pos z.size with h | h
  ·rw [h] at hi2; omega
  ·exact h
 have hlt : i % z.size < z.size := Nat.mod_lt _ hp
 rw [getElem!_pos z _ hlt]
 exact hz _ (by simp)
theorem FRowW.new {σ : Sg} {w w1 : World} (hh : Holds σ w) (hw : w.heap.size ≤ w1.heap.size) {e : TypeId} {news zs : List Value} {esz cap : Nat} {rows : List (List AV)} (hr : RelL σ news rows.flatten) (hl : ∀ c ∈ rows, c.length = esz) (hn : news.length = rows.length * esz) (hz : ∀ u ∈ zs, u.oneCell' = true)
  (hc : news.length + zs.length = cap * esz) (hle : rows.length ≤ cap) : FRowW σ (w1.alloc (.cells (news ++ zs).toArray e)) w1.heap.size cap esz rows := by
 refine ⟨e, _, heap_alloc_new w1 _, by simpa using hc, hle, hl, ?_, fun u hu => ?_, fun j => ?_⟩
 ·rw [← hn]
  simpa using hr
 ·rcases List.mem_append.1 (by simpa using hu) with h | h
  ·exact hr.one u h
  ·exact hz u h
 ·cases hs : σ w1.heap.size j with
  | none => rfl
  | some v =>
   have := World.block_lt_of_cell? w _ (hh _ _ _ hs)
   simp at this
   omega
def zeroV : Value := .agg #[.int .i64 0, .bool false, .int .i64 0, .string ⟨#[]⟩, .slice none 0 0, .slice none 0 0]
theorem info_val : (Tryz.prog.info? 28).map (fun i => (i.zero, i.size, i.bytes)) = some (some zeroV, 6, 88) := by kernel_rfl
set_option maxRecDepth 100000 in
theorem cloneV_mf (rows : List (List AV)) (hne : 0 < rows.length) (hb : rows.length * 88 ≤ 140737488355328) : MF Tryz.prog 70 [.lst .any 6 rows] 6 rows := by
 refine ⟨a_slices_Clone_Value_cb, fun σ w vs hh hr hg => ?_⟩
 obtain ⟨v, rfl⟩ := List.length_eq_one_iff.1 hr.1
 have h1 : Rel1 σ v (.lst .any 6 rows) := hr.2 0 v _ rfl rfl
 obtain ⟨A, cap, b, o, news, rfl, hcap, hA, hsz, hnl, hrel, hcell⟩ := lst_cells h1
 have := hA hne
 subst this
 obtain ⟨i0, hi0, hz0, hzs, hzb⟩ := info_parts info_val
 obtain ⟨zs, hz1, hz2, hrun⟩ : ∃ zs : List Value, (∀ u ∈ zs, u.oneCell' = true) ∧ rows.length * 6 + zs.length = grownCap (w.alloc (.cells #[] 28)) (0 + rows.length) 0 28 * 6 ∧
   ∀ ty, (Builtin.append_ #[25, 25] ty #[.slice (some ⟨w.heap.size, 0, none⟩) 0 0, .slice (some ⟨b, o, none⟩) rows.length cap]).run Tryz.prog (w.alloc (.cells #[] 28)) =
    .ok (.slice (some ⟨w.heap.size + 1, 0, none⟩) rows.length (grownCap (w.alloc (.cells #[] 28)) (0 + rows.length) 0 28)) ((w.alloc (.cells #[] 28)).drew.alloc (.cells (news ++ zs).toArray 28)) := by
  have hge := grownCap_ge (w.alloc (.cells #[] 28)) (0 + rows.length) 0 28
  refine ⟨(Builtin.zeroCells zeroV.cells (grownCap (w.alloc (.cells #[] 28)) (0 + rows.length) 0 28 - (0 + rows.length))).toList, zeros_one (by simp [zeroV, Value.cells, Value.oneCell']) _, ?_, fun ty => ?_⟩
  ·have : (zeroV.cells).size = 6 := rfl
   simp only [Array.length_toList, size_zeroCells, this]
   rw [← Nat.add_mul]
   congr 1
   omega
  ·have := run_append_grow (w.alloc (.cells #[] 28)) 25 ty 28 i0 _ Tryz.underlying25 hi0 hz0 ⟨w.heap.size, 0, none⟩ 0 0 [] (by simp) (fun j v h => by simp at h) ⟨b, o, none⟩ rows.length cap news (by rw [hzs]; exact hnl)
    (fun j v hj => by
     rw [Addr.add_lit]
     have h2 := hh _ _ _ (hcell j v hj)
     rw [World.cell?_alloc_lt w _ _ (World.block_lt_of_cell? w _ h2)]
     exact h2) (by omega) (by omega) (by rw [hzb]; exact growslice_fits (by omega) (by omega))
   rw [this]
   simp
   congr 2
   apply Array.ext'
   simp
 have q24 : ∀ (w : World) (a : Option Addr) (n c : Nat), (binOp .eql 25 (.slice a n c) (.slice none 0 0)).run Tryz.prog w = .ok (.bool a.isNone) w := fun w a n c => by simp [binOp, run_equal_slice_nil w _ _ a n c Tryz.underlying25]
 go_enter Tryz.func70, Tryz.ntmps70
 go_wp2_with (at_builtin; refine Lib.wpList_append_run _ rfl _ _ _ _ rfl _ _ rfl rfl _ _ (hrun _) ?_)
 go_wp2
 go_ret
 have hge := grownCap_ge (w.alloc (.cells #[] 28)) (0 + rows.length) 0 28
 have hbl : Below w.heap.size w ((w.alloc (.cells #[] 28)).drew.alloc (.cells (news ++ zs).toArray 28)) := (((Below.refl _ _).alloc (Nat.le_refl _) _).drew).alloc (by simp) _
 exact ⟨σ, w.heap.size + 1, _, rfl, Ext.refl _ _, fun b q v hv => (hbl.cell (p := ⟨b, q, none⟩) (World.block_lt_of_cell? w _ (hh _ _ _ hv))).trans (hh _ _ _ hv), hbl, by omega,
  by
   have := FRowW.new (w1 := (w.alloc (.cells #[] 28)).drew) hh (by simp) (e := 28) hrel hsz hnl hz1 (by rw [hnl]; exact hz2) (by omega)
   have e : (w.alloc (.cells #[] 28)).drew.heap.size = w.heap.size + 1 := by simp
   rw [e, Nat.zero_add] at this
   exact this⟩
def zeroP : Value := .agg #[.string ⟨#[]⟩, .int .i64 0, .bool false, .int .i64 0, .string ⟨#[]⟩, .slice none 0 0, .slice none 0 0]
theorem info_pair : (Tryz.prog.info? 116).map (fun i => (i.zero, i.size, i.bytes)) = some (some zeroP, 7, 104) := by kernel_rfl
set_option maxRecDepth 100000 in
theorem cloneP_mf (rows : List (List AV)) (hne : 0 < rows.length) (hb : rows.length * 104 ≤ 140737488355328) : MF Tryz.prog 71 [.lst .any 7 rows] 7 rows := by
 refine ⟨a_slices_Clone_Pair_cb, fun σ w vs hh hr hg => ?_⟩
 obtain ⟨v, rfl⟩ := List.length_eq_one_iff.1 hr.1
 have h1 : Rel1 σ v (.lst .any 7 rows) := hr.2 0 v _ rfl rfl
 obtain ⟨A, cap, b, o, news, rfl, hcap, hA, hsz, hnl, hrel, hcell⟩ := lst_cells h1
 have := hA hne
 subst this
 obtain ⟨i0, hi0, hz0, hzs, hzb⟩ := info_parts info_pair
 obtain ⟨zs, hz1, hz2, hrun⟩ : ∃ zs : List Value, (∀ u ∈ zs, u.oneCell' = true) ∧ rows.length * 7 + zs.length = grownCap (w.alloc (.cells #[] 116)) (0 + rows.length) 0 116 * 7 ∧
   ∀ ty, (Builtin.append_ #[26, 26] ty #[.slice (some ⟨w.heap.size, 0, none⟩) 0 0, .slice (some ⟨b, o, none⟩) rows.length cap]).run Tryz.prog (w.alloc (.cells #[] 116)) =
    .ok (.slice (some ⟨w.heap.size + 1, 0, none⟩) rows.length (grownCap (w.alloc (.cells #[] 116)) (0 + rows.length) 0 116)) ((w.alloc (.cells #[] 116)).drew.alloc (.cells (news ++ zs).toArray 116)) := by
  have hge := grownCap_ge (w.alloc (.cells #[] 116)) (0 + rows.length) 0 116
  refine ⟨(Builtin.zeroCells zeroP.cells (grownCap (w.alloc (.cells #[] 116)) (0 + rows.length) 0 116 - (0 + rows.length))).toList, zeros_one (by simp [zeroP, Value.cells, Value.oneCell']) _, ?_, fun ty => ?_⟩
  ·have : (zeroP.cells).size = 7 := rfl
   simp only [Array.length_toList, size_zeroCells, this]
   rw [← Nat.add_mul]
   congr 1
   omega
  ·have := run_append_grow (w.alloc (.cells #[] 116)) 26 ty 116 i0 _ Tryz.underlying26 hi0 hz0 ⟨w.heap.size, 0, none⟩ 0 0 [] (by simp) (fun j v h => by simp at h) ⟨b, o, none⟩ rows.length cap news (by rw [hzs]; exact hnl)
    (fun j v hj => by
     rw [Addr.add_lit]
     have h2 := hh _ _ _ (hcell j v hj)
     rw [World.cell?_alloc_lt w _ _ (World.block_lt_of_cell? w _ h2)]
     exact h2) (by omega) (by omega) (by rw [hzb]; exact growslice_fits (by omega) (by omega))
   rw [this]
   simp
   congr 2
   apply Array.ext'
   simp
 have q24 : ∀ (w : World) (a : Option Addr) (n c : Nat), (binOp .eql 26 (.slice a n c) (.slice none 0 0)).run Tryz.prog w = .ok (.bool a.isNone) w := fun w a n c => by simp [binOp, run_equal_slice_nil w _ _ a n c Tryz.underlying26]
 go_enter Tryz.func71, Tryz.ntmps71
 go_wp2_with (at_builtin; refine Lib.wpList_append_run _ rfl _ _ _ _ rfl _ _ rfl rfl _ _ (hrun _) ?_)
 go_wp2
 go_ret
 have hge := grownCap_ge (w.alloc (.cells #[] 116)) (0 + rows.length) 0 116
 have hbl : Below w.heap.size w ((w.alloc (.cells #[] 116)).drew.alloc (.cells (news ++ zs).toArray 116)) := (((Below.refl _ _).alloc (Nat.le_refl _) _).drew).alloc (by simp) _
 exact ⟨σ, w.heap.size + 1, _, rfl, Ext.refl _ _, fun b q v hv => (hbl.cell (p := ⟨b, q, none⟩) (World.block_lt_of_cell? w _ (hh _ _ _ hv))).trans (hh _ _ _ hv), hbl, by omega,
  by
   have := FRowW.new (w1 := (w.alloc (.cells #[] 116)).drew) hh (by simp) (e := 116) hrel hsz hnl hz1 (by rw [hnl]; exact hz2) (by omega)
   have e : (w.alloc (.cells #[] 116)).drew.heap.size = w.heap.size + 1 := by simp
   rw [e, Nat.zero_add] at this
   exact this⟩
set_option maxRecDepth 100000 in
theorem cloneV_nil : AC Tryz.prog 70 [.lst .any 6 []] (.lst .any 6 []) := by
 refine ⟨a_slices_Clone_Value_cb, fun σ w vs hh hr hg => ?_⟩
 obtain ⟨v, rfl⟩ := List.length_eq_one_iff.1 hr.1
 have h1 : Rel1 σ v (.lst .any 6 []) := hr.2 0 v _ rfl rfl
 obtain ⟨A, cap, b, o, news, rfl, _⟩ := lst_cells h1
 have q24 : ∀ (w : World) (a : Option Addr) (n c : Nat), (binOp .eql 25 (.slice a n c) (.slice none 0 0)).run Tryz.prog w = .ok (.bool a.isNone) w := fun w a n c => by simp [binOp, run_equal_slice_nil w _ _ a n c Tryz.underlying25]
 obtain ⟨i0, hi0, _⟩ := info_parts info_val
 have hrel : ∀ (A : Option Addr) (cap : Nat), RelR σ (.slice A 0 cap) (.lst .any 6 []) := fun A cap => .lst .any 6 [] A 0 cap 0 0 (fun _ _ => undef) rfl (by omega) (fun h => by omega) (fun i c h => by simp at h) (fun i j h => by omega) (fun i j c a h => by simp at h) trivial
 cases A with
 | none =>
  go_enter Tryz.func70, Tryz.ntmps70
  go_wp2
  go_ret
  exact ⟨σ, _, rfl, Ext.refl _ _, hh, Below.refl _ _, hrel none 0⟩
 | some a =>
  have hrun := fun ty => run_append_zero (P := Tryz.prog) (w.alloc (.cells #[] 28)) 25 ty 28 Tryz.underlying25 hi0 (some ⟨w.heap.size, 0, none⟩) (some a) 0 0 cap (by omega)
  go_enter Tryz.func70, Tryz.ntmps70
  go_wp2_with (at_builtin; refine Lib.wpList_append_run _ rfl _ _ _ _ rfl _ _ rfl rfl _ _ (hrun _) ?_)
  go_wp2
  go_ret
  have hbl : Below w.heap.size w (w.alloc (.cells #[] 28)) := (Below.refl _ _).alloc (Nat.le_refl _) _
  exact ⟨σ, _, rfl, Ext.refl _ _, fun b q v hv => (hbl.cell (p := ⟨b, q, none⟩) (World.block_lt_of_cell? w _ (hh _ _ _ hv))).trans (hh _ _ _ hv), hbl, hrel _ _⟩
set_option maxRecDepth 100000 in
theorem cloneP_nil : AC Tryz.prog 71 [.lst .any 7 []] (.lst .any 7 []) := by
 refine ⟨a_slices_Clone_Pair_cb, fun σ w vs hh hr hg => ?_⟩
 obtain ⟨v, rfl⟩ := List.length_eq_one_iff.1 hr.1
 have h1 : Rel1 σ v (.lst .any 7 []) := hr.2 0 v _ rfl rfl
 obtain ⟨A, cap, b, o, news, rfl, _⟩ := lst_cells h1
 have q24 : ∀ (w : World) (a : Option Addr) (n c : Nat), (binOp .eql 26 (.slice a n c) (.slice none 0 0)).run Tryz.prog w = .ok (.bool a.isNone) w := fun w a n c => by simp [binOp, run_equal_slice_nil w _ _ a n c Tryz.underlying26]
 obtain ⟨i0, hi0, _⟩ := info_parts info_pair
 have hrel : ∀ (A : Option Addr) (cap : Nat), RelR σ (.slice A 0 cap) (.lst .any 7 []) := fun A cap => .lst .any 7 [] A 0 cap 0 0 (fun _ _ => undef) rfl (by omega) (fun h => by omega) (fun i c h => by simp at h) (fun i j h => by omega) (fun i j c a h => by simp at h) trivial
 cases A with
 | none =>
  go_enter Tryz.func71, Tryz.ntmps71
  go_wp2
  go_ret
  exact ⟨σ, _, rfl, Ext.refl _ _, hh, Below.refl _ _, hrel none 0⟩
 | some a =>
  have hrun := fun ty => run_append_zero (P := Tryz.prog) (w.alloc (.cells #[] 116)) 26 ty 116 Tryz.underlying26 hi0 (some ⟨w.heap.size, 0, none⟩) (some a) 0 0 cap (by omega)
  go_enter Tryz.func71, Tryz.ntmps71
  go_wp2_with (at_builtin; refine Lib.wpList_append_run _ rfl _ _ _ _ rfl _ _ rfl rfl _ _ (hrun _) ?_)
  go_wp2
  go_ret
  have hbl : Below w.heap.size w (w.alloc (.cells #[] 116)) := (Below.refl _ _).alloc (Nat.le_refl _) _
  exact ⟨σ, _, rfl, Ext.refl _ _, fun b q v hv => (hbl.cell (p := ⟨b, q, none⟩) (World.block_lt_of_cell? w _ (hh _ _ _ hv))).trans (hh _ _ _ hv), hbl, hrel _ _⟩
end Go.Proofs.YtgidajjjpeboeaaGreatDoor
/-
 tree.Clone, walked: what it answers reads as its argument.
-/
namespace Go.Proofs.YtgidajjjpeboeaaGreatDoor
open Go.RowKit
theorem rowsV_ok (l : List V) : RowsOk 6 (rowsV l) := by
 refine ⟨by omega, fun c hc => ?_⟩
 induction l with
 | nil => simp [rowsV] at hc
 | cons x l ih =>
  rw [rowsV] at hc
  rcases List.mem_cons.1 hc with rfl | hc
  ·rw [cellsV_eq]; exact ⟨rfl, rfl⟩
  ·exact ih hc
theorem rowsM_ok (l : List (ByteArray × V)) : RowsOk 7 (rowsM l) := by
 refine ⟨by omega, fun c hc => ?_⟩
 induction l with
 | nil => simp [rowsM] at hc
 | cons x l ih =>
  obtain ⟨y, x⟩ := x
  rw [rowsM] at hc
  rcases List.mem_cons.1 hc with rfl | hc
  ·rw [cellsV_eq]; exact ⟨rfl, rfl⟩
  ·exact ih hc
structure RowCs (esz : Nat) (rows : List (List AV)) (cap : Nat) (cs : List AV) : Prop where
 ok : RowsOk esz rows
 sp : ∃ sp, cs = rows.flatten ++ sp
 len : cs.length = cap * esz
 cap : rows.length ≤ cap
 un : cs.map AV.unown = cs
theorem RowCs.mk_ {esz : Nat} {rows : List (List AV)} (h : RowsOk esz rows) {cap m : Nat} (hc : rows.length ≤ cap) (hl : (rows.flatten ++ List.replicate m AV.top).length = cap * esz) : RowCs esz rows cap (rows.flatten ++ List.replicate m AV.top) :=
 ⟨h, ⟨_, rfl⟩, hl, hc, by rw [List.map_append, h.flat.2]; simp [AV.unown]⟩
theorem RowCs.row {esz : Nat} {rows : List (List AV)} {cap : Nat} {cs : List AV} (h : RowCs esz rows cap cs) {i : Nat} {c : List AV} (hc : rows[i]? = some c) : c.length = esz ∧ (cs.drop (i * esz)).take esz = c := by
 have hl := (h.ok.2 c (List.mem_of_getElem? hc)).1
 refine ⟨hl, List.ext_getElem? fun j => ?_⟩
 obtain ⟨sp, rfl⟩ := h.sp
 rw [List.getElem?_take, List.getElem?_drop]
 split
 ·rename_i hj
  have h1 : c[j]? = some c[j] := List.getElem?_eq_getElem (by omega)
  have h2 := h.ok.at_ hc h1
  rw [List.getElem?_append_left (List.getElem?_eq_some_iff.1 h2).1, h2, h1]
 ·rw [List.getElem?_eq_none (by omega)]
theorem opnC_plain {d id cap : Nat} {cs : List AV} (h : cs.map AV.unown = cs) : cs.map (opnC d id cap) = cs := by
 apply List.ext_getElem?
 intro j
 rw [List.getElem?_map]
 cases hc : cs[j]? with
 | none => rfl
 | some c =>
  have h1 : (cs.map AV.unown)[j]? = some c := by rw [h]; exact hc
  rw [List.getElem?_map, hc] at h1
  simp only [Option.map_some, Option.some.injEq] at h1
  cases c <;> first | rfl | cases h1
theorem AK.open2 {P : Program} {E : Env} {Q : Exit → Fr → St → Prop} {k : List AItem} {fr : Fr} {st : St} {a : ACode} (d id : Nat) {esz : Nat} {rows : List (List AV)} (hd : fr d = some (.frs d esz rows)) (hid : 1000000 ≤ id) (hfree : st.box id = none) (hro : RowsOk esz rows)
  (h : ∀ cap cs, RowCs esz rows cap cs → AK P E Q (.c a :: k) (opnF d id cap fr) (opnB d id cap cs st)) (hid2 : id < 2000000 := by omega) (hmp : isMp id = false := by rfl) : AK P E Q (.c a :: k) fr st :=
 AK.open d d id hd hid hfree (fun cap m hc hl => h cap _ (RowCs.mk_ hro hc hl)) hid2 hmp
theorem RowCs.le {esz : Nat} {rows : List (List AV)} {cap : Nat} {cs : List AV} (h : RowCs esz rows cap cs) {st : St} {id : Nat} (hb : st.box id = some (cs, true)) (hmp : isMp id = false := by rfl) : AVle1 st (.sli id esz rows.length cap) (.lst .any esz rows) := by
 obtain ⟨sp, rfl⟩ := h.sp
 exact .frz id esz cap rows sp hb h.ok hmp
theorem cloneStep (n : Nat) (ih : ∀ v : V, v.size ≤ n → AC Tryz.prog 38 [(vA (v))] ((vA (v)))) (v : V) (hn : v.size ≤ n + 1) (hb : v.size ≤ 1000000000000) : AC Tryz.prog 38 [(vA (v))] ((vA (v))) := by
 have hve := v.size_eq
 have hll := len_le_sizeL v.l
 have hlm := len_le_sizeM v.m
 refine kE Tryz.func38 a_tree_Clone_ok a_tree_Clone_cb fun E hE => ?_
 refine kW ?_
 by_cases hl : v.l = []
 ·by_cases hm : v.m = []
  ·skip
   refine kP [.v (.lst .any 6 (rowsV v.l)), .v (.lst .any 7 (rowsM v.m))] ?_ ?_
   ·((repeat' apply And.intro) <;> first | exact kD | (intro hgd; refine ⟨?_, kG⟩; (repeat' apply And.intro) <;> first | exact kD | skip) | skip)
    ·rw [hl]; exact cloneV_nil
    ·rw [hm]; exact cloneP_nil
   (repeat (first | apply AK.seq | apply AK.block | apply AK.blk | apply AK.skip))
   refine kW ?_
   refine AK.loopI (fun i : Nat => (frOf [(1, .ptr 1 0), (2, .ptr 2 0), (15, .int .i64 (rowsV v.l).length), (16, .int .i64 i)], ⟨boxOf [(1, [.int .i64 v.kind, .bool v.b, .int .i64 v.n, .str v.s, .lst .any 6 (rowsV v.l), .lst .any 7 (rowsM v.m)], false), (2, [.int .i64 0, .bool false, .int .i64 0, .str ⟨#[]⟩, .lst .nil 6 [], .lst .nil 7 []], false), ], fun _ => 0⟩))
    (fun i => i ≤ v.l.length) (fun i => v.l.length - i) 0 (by omega) (Weak.intro ⟨kI, kI, kI, kI, trivial⟩ ⟨kJ, kJ, trivial⟩ rfl rfl (by exact trivial)) fun k hk => ?_
   refine kW ?_
   refine kC (fun hb => ?_) fun hb => ?_
   ·have hlt : k < v.l.length := by simpa [rowsV_len] using hb
    rw [hl] at hlt; simp at hlt
   ·refine AK.exit rfl ?_
    (repeat (first | apply AK.seq | apply AK.block | apply AK.blk | apply AK.skip))
    refine kW ?_
    refine AK.loopI (fun i : Nat => (frOf [(1, .ptr 1 0), (2, .ptr 2 0), (32, .int .i64 (rowsM v.m).length), (33, .int .i64 i)], ⟨boxOf [(1, [.int .i64 v.kind, .bool v.b, .int .i64 v.n, .str v.s, .lst .any 6 (rowsV v.l), .lst .any 7 (rowsM v.m)], false), (2, [.int .i64 0, .bool false, .int .i64 0, .str ⟨#[]⟩, .lst .nil 6 [], .lst .nil 7 []], false), ], fun _ => 0⟩))
     (fun i => i ≤ v.m.length) (fun i => v.m.length - i) 0 (by omega) (Weak.intro ⟨kI, kI, kI, kI, trivial⟩ ⟨kJ, kJ, trivial⟩ rfl rfl (by exact trivial)) fun k hk => ?_
    refine kW ?_
    refine kC (fun hb => ?_) fun hb => ?_
    ·have hlt : k < v.m.length := by simpa [rowsM_len] using hb
     rw [hm] at hlt; simp at hlt
    ·refine AK.exit rfl ?_
     (repeat (first | apply AK.seq | apply AK.block | apply AK.blk | apply AK.skip))
     refine kW ?_
     refine AK.ret ⟨_, rfl, ?_⟩
     rfl
  ·skip
   have h2 : 0 < (rowsM v.m).length := by rw [rowsM_len]; exact List.length_pos_iff.2 hm
   refine kP [.v (.lst .any 6 (rowsV v.l)), .f 7 (rowsM v.m)] ?_ ?_
   ·((repeat' apply And.intro) <;> first | exact kD | (intro hgd; refine ⟨?_, kG⟩; (repeat' apply And.intro) <;> first | exact kD | skip) | skip)
    ·rw [hl]; exact cloneV_nil
    ·exact cloneP_mf _ h2 (by rw [rowsM_len]; omega)
   (repeat (first | apply AK.seq | apply AK.block | apply AK.blk | apply AK.skip))
   refine AK.open2 10 1000010 rfl (by omega) rfl (rowsM_ok v.m) fun cap2 cs2 hr2 => ?_
   refine kW ?_
   refine AK.loopI (fun i : Nat => (frOf [(1, .ptr 1 0), (2, .ptr 2 0), (15, .int .i64 (rowsV v.l).length), (16, .int .i64 i)], ⟨boxOf [(1, [.int .i64 v.kind, .bool v.b, .int .i64 v.n, .str v.s, .lst .any 6 (rowsV v.l), .sli 1000010 7 (rowsM v.m).length cap2], false), (2, [.int .i64 0, .bool false, .int .i64 0, .str ⟨#[]⟩, .lst .nil 6 [], .lst .nil 7 []], false), (1000010, cs2, false)], fun _ => 0⟩))
    (fun i => i ≤ v.l.length) (fun i => v.l.length - i) 0 (by omega) (Weak.intro ⟨kI, kI, kI, kI, trivial⟩ ⟨kJ, kJ, ⟨_, rfl, leL_of_eq rfl⟩, trivial⟩ rfl rfl (by exact ⟨hr2.un, trivial⟩)) fun k hk => ?_
   refine kW ?_
   refine kC (fun hb => ?_) fun hb => ?_
   ·have hlt : k < v.l.length := by simpa [rowsV_len] using hb
    rw [hl] at hlt; simp at hlt
   ·refine AK.exit rfl ?_
    (repeat (first | apply AK.seq | apply AK.block | apply AK.blk | apply AK.skip))
    refine kW ?_
    refine AK.loopI (fun i : Nat => (frOf [(1, .ptr 1 0), (2, .ptr 2 0), (32, .int .i64 (rowsM v.m).length), (33, .int .i64 i)], ⟨boxOf [(1, [.int .i64 v.kind, .bool v.b, .int .i64 v.n, .str v.s, .lst .any 6 (rowsV v.l), .sli 1000010 7 (rowsM v.m).length cap2], false), (2, [.int .i64 0, .bool false, .int .i64 0, .str ⟨#[]⟩, .lst .nil 6 [], .lst .nil 7 []], false), (1000010, cs2, false)], fun _ => 0⟩))
     (fun i => i ≤ v.m.length) (fun i => v.m.length - i) 0 (by omega) (Weak.intro ⟨kI, kI, kI, kI, trivial⟩ ⟨kJ, kJ, kJ, trivial⟩ rfl rfl (by exact ⟨hr2.un, trivial⟩)) fun k hk => ?_
    refine kW ?_
    refine kC (fun hb => ?_) fun hb => ?_
    ·have hlt : k < v.m.length := by simpa [rowsM_len] using hb
     obtain ⟨⟨y, x⟩, hg⟩ : ∃ x, v.m[k]? = some x := ⟨_, List.getElem?_eq_getElem hlt⟩
     have hx := mem_sizeM (List.mem_of_getElem? hg)
     simp only at hx
     have hrow := hr2.row (rowsM_at hg)
     have hlt2 : (k : Int) < (rowsM v.m).length := by rw [rowsM_len]; omega
     refine kW ?_
     refine kP [.c (.str y :: (vC (x))), .v ((vA (x))), .c (.str y :: (vC (x)))] ?_ ?_
     ·((repeat' apply And.intro) <;> first | exact kD | (intro hgd; refine ⟨?_, kG⟩; (repeat' apply And.intro) <;> first | exact kD | skip) | skip)
      ·exact hrow.2
      ·exact ih x (by omega)
      ·exact hrow.2
     refine kW ?_
     refine AK.lp ⟨k + 1, by omega, Weak.intro ⟨kI, kI, kI, kU, trivial⟩ ⟨kJ, kJ, ⟨_, rfl, leL_of_eq ?_⟩, trivial⟩ rfl rfl (by exact ⟨hr2.un, trivial⟩), by omega⟩
     ·have := mid_eq cs2 (k * 7) 7
      rw [hrow.2] at this
      exact this
    ·refine AK.exit rfl ?_
     (repeat (first | apply AK.seq | apply AK.block | apply AK.blk | apply AK.skip))
     refine AK.fz 1000010 rfl ?_
     refine AK.weak (Weak.intro (L := [(1, .ptr 1 0), (2, .ptr 2 0)]) (BL := [(1, (vC (v)), false), (2, [.int .i64 0, .bool false, .int .i64 0, .str ⟨#[]⟩, .lst .nil 6 [], .lst .nil 7 []], false)]) ⟨kI, kI, trivial⟩ ⟨⟨_, rfl, ⟨.refl _, .refl _, .refl _, .refl _, .refl _, hr2.le rfl, trivial⟩⟩, kJ, trivial⟩ rfl rfl (by exact trivial)) ?_
     refine kW ?_
     refine AK.ret ⟨_, rfl, ?_⟩
     rfl
 ·by_cases hm : v.m = []
  ·skip
   have h1 : 0 < (rowsV v.l).length := by rw [rowsV_len]; exact List.length_pos_iff.2 hl
   refine kP [.f 6 (rowsV v.l), .v (.lst .any 7 (rowsM v.m))] ?_ ?_
   ·((repeat' apply And.intro) <;> first | exact kD | (intro hgd; refine ⟨?_, kG⟩; (repeat' apply And.intro) <;> first | exact kD | skip) | skip)
    ·exact cloneV_mf _ h1 (by rw [rowsV_len]; omega)
    ·rw [hm]; exact cloneP_nil
   (repeat (first | apply AK.seq | apply AK.block | apply AK.blk | apply AK.skip))
   refine AK.open2 7 1000007 rfl (by omega) rfl (rowsV_ok v.l) fun cap1 cs1 hr1 => ?_
   refine kW ?_
   refine AK.loopI (fun i : Nat => (frOf [(1, .ptr 1 0), (2, .ptr 2 0), (15, .int .i64 (rowsV v.l).length), (16, .int .i64 i)], ⟨boxOf [(1, [.int .i64 v.kind, .bool v.b, .int .i64 v.n, .str v.s, .sli 1000007 6 (rowsV v.l).length cap1, .lst .any 7 (rowsM v.m)], false), (2, [.int .i64 0, .bool false, .int .i64 0, .str ⟨#[]⟩, .lst .nil 6 [], .lst .nil 7 []], false), (1000007, cs1, false)], fun _ => 0⟩))
    (fun i => i ≤ v.l.length) (fun i => v.l.length - i) 0 (by omega) (Weak.intro ⟨kI, kI, kI, kI, trivial⟩ ⟨kJ, kJ, ⟨_, rfl, leL_of_eq rfl⟩, trivial⟩ rfl rfl (by exact ⟨hr1.un, trivial⟩)) fun k hk => ?_
   refine kW ?_
   refine kC (fun hb => ?_) fun hb => ?_
   ·have hlt : k < v.l.length := by simpa [rowsV_len] using hb
    obtain ⟨x, hg⟩ : ∃ x, v.l[k]? = some x := ⟨_, List.getElem?_eq_getElem hlt⟩
    have hx := mem_size (List.mem_of_getElem? hg)
    have hrow := hr1.row (rowsV_at hg)
    have hlt2 : (k : Int) < (rowsV v.l).length := by rw [rowsV_len]; omega
    refine kW ?_
    refine kP [.c ((vC (x))), .v ((vA (x))), .c ((vC (x)))] ?_ ?_
    ·((repeat' apply And.intro) <;> first | exact kD | (intro hgd; refine ⟨?_, kG⟩; (repeat' apply And.intro) <;> first | exact kD | skip) | skip)
     ·exact hrow.2
     ·exact ih x (by omega)
     ·exact hrow.2
    refine kW ?_
    refine AK.lp ⟨k + 1, by omega, Weak.intro ⟨kI, kI, kI, kU, trivial⟩ ⟨kJ, kJ, ⟨_, rfl, leL_of_eq ?_⟩, trivial⟩ rfl rfl (by exact ⟨hr1.un, trivial⟩), by omega⟩
    ·have := mid_eq cs1 (k * 6) 6
     rw [hrow.2] at this
     exact this
   ·refine AK.exit rfl ?_
    (repeat (first | apply AK.seq | apply AK.block | apply AK.blk | apply AK.skip))
    refine AK.fz 1000007 rfl ?_
    refine kW ?_
    refine AK.loopI (fun i : Nat => (frOf [(1, .ptr 1 0), (2, .ptr 2 0), (32, .int .i64 (rowsM v.m).length), (33, .int .i64 i)], ⟨boxOf [(1, [.int .i64 v.kind, .bool v.b, .int .i64 v.n, .str v.s, .lst .any 6 (rowsV v.l), .lst .any 7 (rowsM v.m)], false), (2, [.int .i64 0, .bool false, .int .i64 0, .str ⟨#[]⟩, .lst .nil 6 [], .lst .nil 7 []], false), ], fun _ => 0⟩))
     (fun i => i ≤ v.m.length) (fun i => v.m.length - i) 0 (by omega) (Weak.intro ⟨kI, kI, kI, kI, trivial⟩ ⟨⟨_, rfl, ⟨.refl _, .refl _, .refl _, .refl _, hr1.le rfl, .refl _, trivial⟩⟩, kJ, trivial⟩ rfl rfl (by exact trivial)) fun k hk => ?_
    refine kW ?_
    refine kC (fun hb => ?_) fun hb => ?_
    ·have hlt : k < v.m.length := by simpa [rowsM_len] using hb
     rw [hm] at hlt; simp at hlt
    ·refine AK.exit rfl ?_
     (repeat (first | apply AK.seq | apply AK.block | apply AK.blk | apply AK.skip))
     refine kW ?_
     refine AK.ret ⟨_, rfl, ?_⟩
     rfl
  ·skip
   have h1 : 0 < (rowsV v.l).length := by rw [rowsV_len]; exact List.length_pos_iff.2 hl
   have h2 : 0 < (rowsM v.m).length := by rw [rowsM_len]; exact List.length_pos_iff.2 hm
   refine kP [.f 6 (rowsV v.l), .f 7 (rowsM v.m)] ?_ ?_
   ·((repeat' apply And.intro) <;> first | exact kD | (intro hgd; refine ⟨?_, kG⟩; (repeat' apply And.intro) <;> first | exact kD | skip) | skip)
    ·exact cloneV_mf _ h1 (by rw [rowsV_len]; omega)
    ·exact cloneP_mf _ h2 (by rw [rowsM_len]; omega)
   (repeat (first | apply AK.seq | apply AK.block | apply AK.blk | apply AK.skip))
   refine AK.open2 10 1000010 rfl (by omega) rfl (rowsM_ok v.m) fun cap2 cs2 hr2 => ?_
   refine AK.open2 7 1000007 rfl (by omega) rfl (rowsV_ok v.l) fun cap1 cs1 hr1 => ?_
   refine kW ?_
   refine AK.loopI (fun i : Nat => (frOf [(1, .ptr 1 0), (2, .ptr 2 0), (15, .int .i64 (rowsV v.l).length), (16, .int .i64 i)], ⟨boxOf [(1, [.int .i64 v.kind, .bool v.b, .int .i64 v.n, .str v.s, .sli 1000007 6 (rowsV v.l).length cap1, .sli 1000010 7 (rowsM v.m).length cap2], false), (2, [.int .i64 0, .bool false, .int .i64 0, .str ⟨#[]⟩, .lst .nil 6 [], .lst .nil 7 []], false), (1000007, cs1, false), (1000010, cs2, false)], fun _ => 0⟩))
    (fun i => i ≤ v.l.length) (fun i => v.l.length - i) 0 (by omega) (Weak.intro ⟨kI, kI, kI, kI, trivial⟩ ⟨kJ, kJ, ⟨_, rfl, leL_of_eq rfl⟩, ⟨_, rfl, leL_of_eq (opnC_plain hr2.un)⟩, trivial⟩ rfl rfl (by exact ⟨hr1.un, hr2.un, trivial⟩)) fun k hk => ?_
   refine kW ?_
   refine kC (fun hb => ?_) fun hb => ?_
   ·have hlt : k < v.l.length := by simpa [rowsV_len] using hb
    obtain ⟨x, hg⟩ : ∃ x, v.l[k]? = some x := ⟨_, List.getElem?_eq_getElem hlt⟩
    have hx := mem_size (List.mem_of_getElem? hg)
    have hrow := hr1.row (rowsV_at hg)
    have hlt2 : (k : Int) < (rowsV v.l).length := by rw [rowsV_len]; omega
    refine kW ?_
    refine kP [.c ((vC (x))), .v ((vA (x))), .c ((vC (x)))] ?_ ?_
    ·((repeat' apply And.intro) <;> first | exact kD | (intro hgd; refine ⟨?_, kG⟩; (repeat' apply And.intro) <;> first | exact kD | skip) | skip)
     ·exact hrow.2
     ·exact ih x (by omega)
     ·exact hrow.2
    refine kW ?_
    refine AK.lp ⟨k + 1, by omega, Weak.intro ⟨kI, kI, kI, kU, trivial⟩ ⟨kJ, kJ, ⟨_, rfl, leL_of_eq ?_⟩, kJ, trivial⟩ rfl rfl (by exact ⟨hr1.un, hr2.un, trivial⟩), by omega⟩
    ·have := mid_eq cs1 (k * 6) 6
     rw [hrow.2] at this
     exact this
   ·refine AK.exit rfl ?_
    (repeat (first | apply AK.seq | apply AK.block | apply AK.blk | apply AK.skip))
    refine AK.fz 1000007 rfl ?_
    refine kW ?_
    refine AK.loopI (fun i : Nat => (frOf [(1, .ptr 1 0), (2, .ptr 2 0), (32, .int .i64 (rowsM v.m).length), (33, .int .i64 i)], ⟨boxOf [(1, [.int .i64 v.kind, .bool v.b, .int .i64 v.n, .str v.s, .lst .any 6 (rowsV v.l), .sli 1000010 7 (rowsM v.m).length cap2], false), (2, [.int .i64 0, .bool false, .int .i64 0, .str ⟨#[]⟩, .lst .nil 6 [], .lst .nil 7 []], false), (1000010, cs2, false)], fun _ => 0⟩))
     (fun i => i ≤ v.m.length) (fun i => v.m.length - i) 0 (by omega) (Weak.intro ⟨kI, kI, kI, kI, trivial⟩ ⟨⟨_, rfl, ⟨.refl _, .refl _, .refl _, .refl _, hr1.le rfl, .refl _, trivial⟩⟩, kJ, kJ, trivial⟩ rfl rfl (by exact ⟨hr2.un, trivial⟩)) fun k hk => ?_
    refine kW ?_
    refine kC (fun hb => ?_) fun hb => ?_
    ·have hlt : k < v.m.length := by simpa [rowsM_len] using hb
     obtain ⟨⟨y, x⟩, hg⟩ : ∃ x, v.m[k]? = some x := ⟨_, List.getElem?_eq_getElem hlt⟩
     have hx := mem_sizeM (List.mem_of_getElem? hg)
     simp only at hx
     have hrow := hr2.row (rowsM_at hg)
     have hlt2 : (k : Int) < (rowsM v.m).length := by rw [rowsM_len]; omega
     refine kW ?_
     refine kP [.c (.str y :: (vC (x))), .v ((vA (x))), .c (.str y :: (vC (x)))] ?_ ?_
     ·((repeat' apply And.intro) <;> first | exact kD | (intro hgd; refine ⟨?_, kG⟩; (repeat' apply And.intro) <;> first | exact kD | skip) | skip)
      ·exact hrow.2
      ·exact ih x (by omega)
      ·exact hrow.2
     refine kW ?_
     refine AK.lp ⟨k + 1, by omega, Weak.intro ⟨kI, kI, kI, kU, trivial⟩ ⟨kJ, kJ, ⟨_, rfl, leL_of_eq ?_⟩, trivial⟩ rfl rfl (by exact ⟨hr2.un, trivial⟩), by omega⟩
     ·have := mid_eq cs2 (k * 7) 7
      rw [hrow.2] at this
      exact this
    ·refine AK.exit rfl ?_
     (repeat (first | apply AK.seq | apply AK.block | apply AK.blk | apply AK.skip))
     refine AK.fz 1000010 rfl ?_
     refine AK.weak (Weak.intro (L := [(1, .ptr 1 0), (2, .ptr 2 0)]) (BL := [(1, (vC (v)), false), (2, [.int .i64 0, .bool false, .int .i64 0, .str ⟨#[]⟩, .lst .nil 6 [], .lst .nil 7 []], false)]) ⟨kI, kI, trivial⟩ ⟨⟨_, rfl, ⟨.refl _, .refl _, .refl _, .refl _, .refl _, hr2.le rfl, trivial⟩⟩, kJ, trivial⟩ rfl rfl (by exact trivial)) ?_
     refine kW ?_
     refine AK.ret ⟨_, rfl, ?_⟩
     rfl
theorem clone_all : ∀ (n : Nat) (v : V), v.size ≤ n → v.size ≤ 1000000000000 → AC Tryz.prog 38 [(vA (v))] ((vA (v))) := by
 intro n
 induction n with
 | zero => intro v h; have := v.size_pos; omega
 | succ n ih =>
  intro v h hb
  by_cases hn : v.size ≤ n
  ·exact ih v hn hb
  ·exact cloneStep n (fun u hu => ih u hu (by omega)) v h hb
theorem clone_ok : CloneOk := fun v hv => clone_all v.size v (Nat.le_refl _) hv
end Go.Proofs.YtgidajjjpeboeaaGreatDoor
