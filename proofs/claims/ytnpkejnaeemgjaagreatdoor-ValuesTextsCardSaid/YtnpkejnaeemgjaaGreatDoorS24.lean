/-
  The texts that the claim wants, one behind the other: part 24.
-/
import Derived.Test.YtnpkejnaeemgjaaGreatDoorS23
import Derived.Test.YtnpkejnaeemgjaaGreatDoorChecked
import Derived.KernelRfl
set_option linter.unusedSimpArgs false
set_option linter.unusedVariables false
namespace Go.Proofs.YtnpkejnaeemgjaaGreatDoor
set_option maxRecDepth 100000
def b_tree_Put : ACode :=
 .seq (gQ [gP 3 0, gP 5 2, ⟨gO, .alloc 6 gZ⟩]) (.seq (.seq (gQ [gF 7 0 3, gL 8 7, gU 9 .neq 8 5]) (.cond (.s 9) (.reg [⟨gO, .build 10 gZ []⟩, gT 6 3 10]) .skip)) (.seq (gQ [gF 11 5 3, gL 12 11, ⟨gO, .callo (some 13) (.k (.fn 99 [])) [.s 12]⟩, gM 14 1, gA 15 6 5, ⟨gO, .build 16 [.str ⟨#[]⟩, .int .i64 0, .bool false, .int .i64 0, .str ⟨#[]⟩, .lst .nil 6 [], .lst .nil 7 []] [(0, 1, .s 14), (1, 6, .s 15)]⟩, ⟨gO, .bsl 17 1 7 [.str ⟨#[]⟩, .int .i64 0, .bool false, .int .i64 0, .str ⟨#[]⟩, .lst .nil 6 [], .lst .nil 7 []] [(0, 7, .s 16)]⟩, ⟨gO, .app 18 7 104 (.s 13) (.s 17)⟩, gC 19 22 [.s 18], gT 6 6 19]) .ret))
def a_tree_Put : AFn := ⟨3, 20, b_tree_Put, [.cell 6 6 true]⟩
theorem a_tree_Put_ok : fnAF Tryz.prog [1000099] Tryz.f85 = some a_tree_Put := by kernel_rfl
theorem a_tree_Put_cb : callable Tryz.prog 85 = true := by kernel_rfl
end Go.Proofs.YtnpkejnaeemgjaaGreatDoor
namespace Go.Proofs.YtnpkejnaeemgjaaGreatDoor
open Go.RowKit
set_option maxRecDepth 100000 in
theorem cloneP_nilf : AC Tryz.prog 99 [.lst .any 7 []] (.lst .full 7 []) := by
 refine ⟨a_slices_Clone_Pair_cb, fun σ w vs hh hr hg => ?_⟩
 obtain ⟨v, rfl⟩ := List.length_eq_one_iff.1 hr.1
 have h1 : Rel1 σ v (.lst .any 7 []) := hr.2 0 v _ rfl rfl
 obtain ⟨A, cap, b, o, news, rfl, _⟩ := lst_cells h1
 have q24 : ∀ (w : World) (a : Option Addr) (n c : Nat), (binOp .eql 23 (.slice a n c) (.slice none 0 0)).run Tryz.prog w = .ok (.bool a.isNone) w := fun w a n c => by simp [binOp, run_equal_slice_nil w _ _ a n c Tryz.underlying23]
 obtain ⟨i0, hi0, _⟩ := info_parts info_pair
 have hrel : ∀ (A : Option Addr), RelR σ (.slice A 0 0) (.lst .full 7 []) := fun A => .lst .full 7 [] A 0 0 0 0 (fun _ _ => undef) rfl (by omega) (fun h => by omega) (fun i c h => by simp at h) (fun i j h => by omega) (fun i j c a h => by simp at h) rfl
 cases A with
 | none =>
  go_enter Tryz.func99, Tryz.ntmps99
  go_wp2
  go_ret
  exact ⟨σ, _, rfl, Ext.refl _ _, hh, Below.refl _ _, hrel none⟩
 | some a =>
  have hrun := fun ty => run_append_zero (P := Tryz.prog) (w.alloc (.cells #[] 58)) 23 ty 58 Tryz.underlying23 hi0 (some ⟨w.heap.size, 0, none⟩) (some a) 0 0 cap (by omega)
  go_enter Tryz.func99, Tryz.ntmps99
  go_wp2_with (at_builtin; refine Lib.wpList_append_run _ rfl _ _ _ _ rfl _ _ rfl rfl _ _ (hrun _) ?_)
  go_wp2
  go_ret
  have hbl : Below w.heap.size w (w.alloc (.cells #[] 58)) := (Below.refl _ _).alloc (Nat.le_refl _) _
  exact ⟨σ, _, rfl, Ext.refl _ _, fun b q v hv => (hbl.cell (p := ⟨b, q, none⟩) (World.block_lt_of_cell? w _ (hh _ _ _ hv))).trans (hh _ _ _ hv), hbl, hrel _⟩
theorem mapOf_put {key : ByteArray} {x : V} {m : List (ByteArray × V)} (h : Rises m) : mapOf (m ++ [(key, x)]) = minsert key x m := by
 have := mapOf_take (l := m ++ [(key, x)]) (k := m.length) (p := (key, x)) (by simp)
 rw [List.take_of_length_le (by simp), List.take_left', mapOf_rises h] at this
 ·exact this
 ·rfl
theorem treePut_o (v : V) (key : ByteArray) (x : V) (ho : v.ord) (hs : v.size + x.size ≤ 1000000000000) : AC Tryz.prog 85 [(vA (v)), .str key, (vA (x))] ((vA ((vMap (minsert key x v.m))))) := by
 have hor := (V.ord_eq v).1 ho
 have hve := v.size_eq
 have hlm := len_le_sizeM v.m
 have hsz : sizeM (v.m ++ [(key, x)]) ≤ 1000000000000 := by
  have : ∀ m : List (ByteArray × V), sizeM (m ++ [(key, x)]) = sizeM m + x.size := by
   intro m
   induction m with
   | nil => simp [sizeM]
   | cons p m ih => obtain ⟨k, u⟩ := p; simp only [List.cons_append, sizeM, ih]; omega
  rw [this]; omega
 have hT := treeMap_a (v.m ++ [(key, x)]) hsz
 rw [mapOf_put hor.2.2.1, rowsM_append, rowsM, rowsM, cellsV_eq] at hT
 show AC Tryz.prog 85 [(vA (v)), .str key, (vA (x))] (.agg [.int .i64 5, .bool false, .int .i64 0, .str ⟨#[]⟩, .lst .any 6 [], .lst .any 7 (rowsM (minsert key x v.m))])
 by_cases hk : v.kind = 5
 ·have hv := hor.1 hk
  generalize v.m = m at *
  subst hv
  refine kE Tryz.func85 a_tree_Put_ok a_tree_Put_cb fun E hE => ?_
  refine kW ?_
  refine kC (fun hb => ?_) fun hb => ?_
  ·cases hb
  cases m with
  | nil =>
   refine kW ?_
   refine kP [.v (.lst .full 7 []), .v (.agg [.int .i64 5, .bool false, .int .i64 0, .str ⟨#[]⟩, .lst .any 6 [], .lst .any 7 (rowsM (minsert key x []))])] ?_ ?_
   ·((repeat' apply And.intro) <;> first | exact kD | (intro hgd; refine ⟨?_, kG⟩; (repeat' apply And.intro) <;> first | exact kD | skip) | skip)
    ·exact cloneP_nilf
   refine kW ?_
   refine AK.ret ⟨_, rfl, ?_⟩
   rfl
  | cons p m =>
   refine kW ?_
   refine kP [.o 7 (rowsM (p :: m)), .v (.agg [.int .i64 5, .bool false, .int .i64 0, .str ⟨#[]⟩, .lst .any 6 [], .lst .any 7 (rowsM (minsert key x (p :: m)))])] ?_ ?_
   ·((repeat' apply And.intro) <;> first | exact kD | (intro hgd; refine ⟨?_, kG⟩; (repeat' apply And.intro) <;> first | exact kD | skip) | skip)
    ·exact cloneP_mf (rowsM (p :: m)) (by rw [rowsM_len]; simp) (by rw [rowsM_len]; omega)
    all_goals simp only [rowsM_len, List.length_nil, List.length_cons, List.length_map] at hlm ⊢
    all_goals omega
   refine kW ?_
   refine AK.ret ⟨_, rfl, ?_⟩
   rfl
 ·have hm := hor.2.1 hk
  rw [hm] at hT ⊢
  refine kE Tryz.func85 a_tree_Put_ok a_tree_Put_cb fun E hE => ?_
  refine kW ?_
  refine kC (fun hb => ?_) fun hb => ?_
  ·refine kW ?_
   refine kP [.v (.lst .full 7 []), .v (.agg [.int .i64 5, .bool false, .int .i64 0, .str ⟨#[]⟩, .lst .any 6 [], .lst .any 7 (rowsM (minsert key x []))])] ?_ ?_
   ·((repeat' apply And.intro) <;> first | exact kD | (intro hgd; refine ⟨?_, kG⟩; (repeat' apply And.intro) <;> first | exact kD | skip) | skip)
    ·exact cloneP_nilf
   refine kW ?_
   refine AK.ret ⟨_, rfl, ?_⟩
   rfl
  ·exact absurd (by simpa using hb) hk
theorem treeGet_o (v : V) (key : ByteArray) (ho : v.ord) (hsz : v.size ≤ 1000000000000) : AC Tryz.prog 24 [(vA (v)), .str key] (.tup [(vA (((mfind key v.m).getD V.null))), .bool (mfind key v.m).isSome]) := by
 have hve := v.size_eq
 have hlm := len_le_sizeM v.m
 have hor := (V.ord_eq v).1 ho
 have hs := hor.2.2.1
 cases hf : mfind key v.m with
 | none =>
  refine kE Tryz.func24 a_tree_Get_ok a_tree_Get_cb fun E hE => ?_
  refine kW ?_
  refine kC (fun hb => ?_) fun hb => ?_
  ·refine kW ?_
   refine AK.ret ⟨_, rfl, ?_⟩
   rfl
  refine kW ?_
  refine kP [.v (.tup [.int .i64 (bpos key v.m : Nat), .bool (bfound key v.m)])] ?_ ?_
  ·((repeat' apply And.intro) <;> first | exact kD | (intro hgd; refine ⟨?_, kG⟩; (repeat' apply And.intro) <;> first | exact kD | skip) | skip)
   ·exact bsearch_a v.m key hs (by omega)
  rw [bfound_none hf]
  refine kW ?_
  refine kC (fun hb => ?_) fun hb => ?_
  ·refine kW ?_
   refine AK.ret ⟨_, rfl, ?_⟩
   rfl
  ·cases hb
 | some x =>
  obtain ⟨h1, h2⟩ := bfound_some hs hf
  have hxs := mfind_size hf
  refine kE Tryz.func24 a_tree_Get_ok a_tree_Get_cb fun E hE => ?_
  refine kW ?_
  refine kC (fun hb => ?_) fun hb => ?_
  ·have hk : v.kind ≠ 5 := by simpa using hb
   rw [hor.2.1 hk] at hf
   cases hf
  refine kW ?_
  refine kP [.v (.tup [.int .i64 (bpos key v.m : Nat), .bool (bfound key v.m)])] ?_ ?_
  ·((repeat' apply And.intro) <;> first | exact kD | (intro hgd; refine ⟨?_, kG⟩; (repeat' apply And.intro) <;> first | exact kD | skip) | skip)
   ·exact bsearch_a v.m key hs (by omega)
  rw [h2]
  refine kW ?_
  refine kC (fun hb => ?_) fun hb => ?_
  ·cases hb
  ·refine kW ?_
   refine kP [.c (.str key :: (vC (x))), .v ((vA (x)))] ?_ ?_
   ·((repeat' apply And.intro) <;> first | exact kD | (intro hgd; refine ⟨?_, kG⟩; (repeat' apply And.intro) <;> first | exact kD | skip) | skip)
    ·exact rowsM_at h1
    ·exact clone_ok x (by omega)
   refine kW ?_
   refine AK.ret ⟨_, rfl, ?_⟩
   rfl
end Go.Proofs.YtnpkejnaeemgjaaGreatDoor
