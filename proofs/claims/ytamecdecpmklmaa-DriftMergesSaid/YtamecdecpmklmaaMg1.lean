/-
  tree.Put at a map, walked.
-/
import Derived.Test.YtamecdecpmklmaaDriftH
import Derived.Test.YtamecdecpmklmaaMgP
namespace Go.Proofs.Ytamecdecpmklmaa
set_option linter.unusedSimpArgs false
set_option linter.unusedVariables false
open Go.RowKit

set_option maxRecDepth 100000 in
theorem cloneP_nilf : AC Try.prog 48 [.lst .any 7 []] (.lst .full 7 []) := by
  refine ⟨a_slices_Clone_Pair_cb, fun σ w vs hh hr => ?_⟩
  obtain ⟨v, rfl⟩ := List.length_eq_one_iff.1 hr.1
  have h1 : Rel1 σ v (.lst .any 7 []) := hr.2 0 v _ rfl rfl
  obtain ⟨A, cap, b, o, news, rfl, _⟩ := lst_cells h1
  have q24 : ∀ (w : World) (a : Option Addr) (n c : Nat), (binOp .eql 25 (.slice a n c) (.slice none 0 0)).run Try.prog w = .ok (.bool a.isNone) w := fun w a n c => by simp [binOp, run_equal_slice_nil w _ _ a n c Try.underlying25]
  obtain ⟨i0, hi0, _⟩ := info_parts info_pair
  have hrel : ∀ (A : Option Addr), RelR σ (.slice A 0 0) (.lst .full 7 []) := fun A => .lst .full 7 [] A 0 0 0 0 (fun _ _ => undef) rfl (by omega) (fun h => by omega) (fun i c h => by simp at h) (fun i j h => by omega) (fun i j c a h => by simp at h) rfl
  cases A with
  | none =>
    go_enter Try.func48, Try.ntmps48
    go_wp2
    go_ret
    exact ⟨σ, _, rfl, Ext.refl _ _, hh, Below.refl _ _, hrel none⟩
  | some a =>
    have hrun := fun ty => run_append_zero (P := Try.prog) (w.alloc (.cells #[] 59)) 25 ty 59 Try.underlying25 hi0 (some ⟨w.heap.size, 0, none⟩) (some a) 0 0 cap (by omega)
    go_enter Try.func48, Try.ntmps48
    go_wp2_with (at_builtin; refine Lib.wpList_append_run _ rfl _ _ _ _ rfl _ _ rfl rfl _ _ (hrun _) ?_)
    go_wp2
    go_ret
    have hbl : Below w.heap.size w (w.alloc (.cells #[] 59)) := (Below.refl _ _).alloc (Nat.le_refl _) _
    exact ⟨σ, _, rfl, Ext.refl _ _, fun b q v hv => (hbl.cell (p := ⟨b, q, none⟩) (World.block_lt_of_cell? w _ (hh _ _ _ hv))).trans (hh _ _ _ hv), hbl, hrel _⟩
theorem mapOf_put {key : ByteArray} {x : V} {m : List (ByteArray × V)} (h : Rises m) : mapOf (m ++ [(key, x)]) = minsert key x m := by
  have := mapOf_take (l := m ++ [(key, x)]) (k := m.length) (p := (key, x)) (by simp)
  rw [List.take_of_length_le (by simp), List.take_left', mapOf_rises h] at this
  · exact this
  · rfl
theorem treePut_a (m : List (ByteArray × V)) (key : ByteArray) (x : V) (hr : Rises m) (hs : sizeM m + x.size ≤ 1000000000000) : AC Try.prog 35 [.agg [.int .i64 5, .bool false, .int .i64 0, .str ⟨#[]⟩, .lst .any 6 [], .lst .any 7 (rowsM m)], .str key, .agg [.int .i64 (x).kind, .bool (x).b, .int .i64 (x).n, .str (x).s, .lst .any 6 (rowsV (x).l), .lst .any 7 (rowsM (x).m)]] (.agg [.int .i64 5, .bool false, .int .i64 0, .str ⟨#[]⟩, .lst .any 6 [], .lst .any 7 (rowsM (minsert key x m))]) := by
  have hlm := len_le_sizeM m
  have hsz : sizeM (m ++ [(key, x)]) ≤ 1000000000000 := by
    have : ∀ m : List (ByteArray × V), sizeM (m ++ [(key, x)]) = sizeM m + x.size := by
      intro m
      induction m with
      | nil => simp [sizeM]
      | cons p m ih => obtain ⟨k, u⟩ := p; simp only [List.cons_append, sizeM, ih]; omega
    rw [this]; exact hs
  have hT := treeMap_a (m ++ [(key, x)]) hsz
  rw [mapOf_put hr, rowsM_append, rowsM, rowsM, cellsV_eq] at hT
  refine AC.enter Try.func35 a_tree_Put_ok a_tree_Put_cb (by rfl) fun E hE => ?_
  show AK _ _ _ [.c b_tree_Put] _ _
  rw [b_tree_Put]
  (repeat (first | apply AK.seq | apply AK.block | apply AK.blk | apply AK.skip | (refine AK.reg follows_any (rs := []) (by rfl) ?_ ?_; first | exact trivial | exact ⟨trivial, trivial⟩ | exact ⟨trivial, trivial, trivial⟩ | exact ⟨trivial, trivial, trivial, trivial⟩ | fail) | fail))
  refine AK.cond (by rfl) (fun hb => ?_) (fun hb => ?_)
  · cases hb
  cases m with
  | nil =>
    (repeat (first | apply AK.seq | apply AK.block | apply AK.blk | apply AK.skip | (refine AK.reg follows_any (rs := []) (by rfl) ?_ ?_; first | exact trivial | exact ⟨trivial, trivial⟩ | exact ⟨trivial, trivial, trivial⟩ | exact ⟨trivial, trivial, trivial, trivial⟩ | fail) | fail))
    refine AK.reg follows_any (rs := [.v (.lst .full 7 []), .v (.agg [.int .i64 5, .bool false, .int .i64 0, .str ⟨#[]⟩, .lst .any 6 [], .lst .any 7 (rowsM (minsert key x []))])]) (by rfl) ?_ ?_
    · ((repeat' apply And.intro) <;> first | trivial | omega | (simp only [List.length_nil, List.length_cons]; omega) | (intro hgd; first | (rw [hgd]; rfl) | (refine ⟨?_, by repeat (first | exact trivial | refine ⟨hgd, ?_⟩)⟩; (repeat' apply And.intro) <;> first | trivial | omega | (intro h2; rw [hgd, h2]; rfl) | skip)) | skip)
      · exact cloneP_nilf
    (repeat (first | apply AK.seq | apply AK.block | apply AK.blk | apply AK.skip | (refine AK.reg follows_any (rs := []) (by rfl) ?_ ?_; first | exact trivial | exact ⟨trivial, trivial⟩ | exact ⟨trivial, trivial, trivial⟩ | exact ⟨trivial, trivial, trivial, trivial⟩ | fail) | fail))
    refine AK.ret ⟨_, rfl, ?_⟩
    rfl
  | cons p m =>
    (repeat (first | apply AK.seq | apply AK.block | apply AK.blk | apply AK.skip | (refine AK.reg follows_any (rs := []) (by rfl) ?_ ?_; first | exact trivial | exact ⟨trivial, trivial⟩ | exact ⟨trivial, trivial, trivial⟩ | exact ⟨trivial, trivial, trivial, trivial⟩ | fail) | fail))
    refine AK.reg follows_any (rs := [.o 7 (rowsM (p :: m)), .v (.agg [.int .i64 5, .bool false, .int .i64 0, .str ⟨#[]⟩, .lst .any 6 [], .lst .any 7 (rowsM (minsert key x (p :: m)))])]) (by rfl) ?_ ?_
    · ((repeat' apply And.intro) <;> first | trivial | omega | (simp only [List.length_nil, List.length_cons]; omega) | (intro hgd; first | (rw [hgd]; rfl) | (refine ⟨?_, by repeat (first | exact trivial | refine ⟨hgd, ?_⟩)⟩; (repeat' apply And.intro) <;> first | trivial | omega | (intro h2; rw [hgd, h2]; rfl) | skip)) | skip)
      · exact cloneP_mf _ (by rw [rowsM_len]; simp) (by rw [rowsM_len]; omega)
      all_goals simp only [rowsM_len, List.length_nil, List.length_cons, List.length_map] at hlm ⊢
      all_goals omega
    (repeat (first | apply AK.seq | apply AK.block | apply AK.blk | apply AK.skip | (refine AK.reg follows_any (rs := []) (by rfl) ?_ ?_; first | exact trivial | exact ⟨trivial, trivial⟩ | exact ⟨trivial, trivial, trivial⟩ | exact ⟨trivial, trivial, trivial, trivial⟩ | fail) | fail))
    refine AK.ret ⟨_, rfl, ?_⟩
    rfl
end Go.Proofs.Ytamecdecpmklmaa
