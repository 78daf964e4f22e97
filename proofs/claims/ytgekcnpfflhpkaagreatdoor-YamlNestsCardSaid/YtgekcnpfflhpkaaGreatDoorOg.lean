/-
  tree.Get and tree.Put at a map or at what is none, walked.
-/
import Derived.Test.YtgekcnpfflhpkaaGreatDoorOvP
import Derived.Test.YtgekcnpfflhpkaaGreatDoorDriftH
namespace Go.Proofs.YtgekcnpfflhpkaaGreatDoor
set_option linter.unusedSimpArgs false
set_option linter.unusedVariables false
open Go.RowKit

set_option maxRecDepth 100000 in
theorem cloneP_nilf : AC Tryz.prog 121 [.lst .any 7 []] (.lst .full 7 []) := by
  refine ⟨a_slices_Clone_Pair_cb, fun σ w vs hh hr hg => ?_⟩
  obtain ⟨v, rfl⟩ := List.length_eq_one_iff.1 hr.1
  have h1 : Rel1 σ v (.lst .any 7 []) := hr.2 0 v _ rfl rfl
  obtain ⟨A, cap, b, o, news, rfl, _⟩ := lst_cells h1
  have q24 : ∀ (w : World) (a : Option Addr) (n c : Nat), (binOp .eql 26 (.slice a n c) (.slice none 0 0)).run Tryz.prog w = .ok (.bool a.isNone) w := fun w a n c => by simp [binOp, run_equal_slice_nil w _ _ a n c Tryz.underlying26]
  obtain ⟨i0, hi0, _⟩ := info_parts info_pair
  have hrel : ∀ (A : Option Addr), RelR σ (.slice A 0 0) (.lst .full 7 []) := fun A => .lst .full 7 [] A 0 0 0 0 (fun _ _ => undef) rfl (by omega) (fun h => by omega) (fun i c h => by simp at h) (fun i j h => by omega) (fun i j c a h => by simp at h) rfl
  cases A with
  | none =>
    go_enter Tryz.func121, Tryz.ntmps121
    go_wp2
    go_ret
    exact ⟨σ, _, rfl, Ext.refl _ _, hh, Below.refl _ _, hrel none⟩
  | some a =>
    have hrun := fun ty => run_append_zero (P := Tryz.prog) (w.alloc (.cells #[] 44)) 26 ty 44 Tryz.underlying26 hi0 (some ⟨w.heap.size, 0, none⟩) (some a) 0 0 cap (by omega)
    go_enter Tryz.func121, Tryz.ntmps121
    go_wp2_with (at_builtin; refine Lib.wpList_append_run _ rfl _ _ _ _ rfl _ _ rfl rfl _ _ (hrun _) ?_)
    go_wp2
    go_ret
    have hbl : Below w.heap.size w (w.alloc (.cells #[] 44)) := (Below.refl _ _).alloc (Nat.le_refl _) _
    exact ⟨σ, _, rfl, Ext.refl _ _, fun b q v hv => (hbl.cell (p := ⟨b, q, none⟩) (World.block_lt_of_cell? w _ (hh _ _ _ hv))).trans (hh _ _ _ hv), hbl, hrel _⟩
theorem mapOf_put {key : ByteArray} {x : V} {m : List (ByteArray × V)} (h : Rises m) : mapOf (m ++ [(key, x)]) = minsert key x m := by
  have := mapOf_take (l := m ++ [(key, x)]) (k := m.length) (p := (key, x)) (by simp)
  rw [List.take_of_length_le (by simp), List.take_left', mapOf_rises h] at this
  · exact this
  · rfl
/-- tree.Put at a map, or at what is none -/
theorem treePut_o (v : V) (key : ByteArray) (x : V) (ho : v.ord) (hs : v.size + x.size ≤ 1000000000000) : AC Tryz.prog 94 [.agg [.int .i64 (v).kind, .bool (v).b, .int .i64 (v).n, .str (v).s, .lst .any 6 (rowsV (v).l), .lst .any 7 (rowsM (v).m)], .str key, .agg [.int .i64 (x).kind, .bool (x).b, .int .i64 (x).n, .str (x).s, .lst .any 6 (rowsV (x).l), .lst .any 7 (rowsM (x).m)]] (.agg [.int .i64 ((vMap (minsert key x v.m))).kind, .bool ((vMap (minsert key x v.m))).b, .int .i64 ((vMap (minsert key x v.m))).n, .str ((vMap (minsert key x v.m))).s, .lst .any 6 (rowsV ((vMap (minsert key x v.m))).l), .lst .any 7 (rowsM ((vMap (minsert key x v.m))).m)]) := by
  have hor := (V.ord_eq v).1 ho
  have hve := v.size_eq
  have hlm := len_le_sizeM v.m
  have hsz : sizeM (v.m ++ [(key, x)]) ≤ 1000000000000 := by
    have : ∀ m : List (ByteArray × V), sizeM (m ++ [(key, x)]) = sizeM m + x.size := by
      intro m
      induction m with
      | nil => simp [sizeM]
      | cons p m ih => obtain ⟨k, u⟩ := p; simp only [List.cons_append, sizeM, ih]; omega
    rw [this]; omega
  have hT := treeMap_a (v.m ++ [(key, x)]) hsz
  rw [mapOf_put hor.2.2.1, rowsM_append, rowsM, rowsM, cellsV_eq] at hT
  show AC Tryz.prog 94 [.agg [.int .i64 (v).kind, .bool (v).b, .int .i64 (v).n, .str (v).s, .lst .any 6 (rowsV (v).l), .lst .any 7 (rowsM (v).m)], .str key, .agg [.int .i64 (x).kind, .bool (x).b, .int .i64 (x).n, .str (x).s, .lst .any 6 (rowsV (x).l), .lst .any 7 (rowsM (x).m)]] (.agg [.int .i64 5, .bool false, .int .i64 0, .str ⟨#[]⟩, .lst .any 6 [], .lst .any 7 (rowsM (minsert key x v.m))])
  by_cases hk : v.kind = 5
  · have hv := hor.1 hk
    generalize v.m = m at *
    subst hv
    refine AC.enter Tryz.func94 a_tree_Put_ok a_tree_Put_cb (by rfl) fun E hE => ?_
    show AK _ _ _ [.c b_tree_Put] _ _
    rw [b_tree_Put]
    (repeat (first | apply kS | apply kB | apply kL | apply kN | refine kA follows_any ?_))
    refine AK.cond (by rfl) (fun hb => ?_) (fun hb => ?_)
    · cases hb
    cases m with
    | nil =>
      (repeat (first | apply kS | apply kB | apply kL | apply kN | refine kA follows_any ?_))
      refine kR follows_any [.v (.lst .full 7 []), .v (.agg [.int .i64 5, .bool false, .int .i64 0, .str ⟨#[]⟩, .lst .any 6 [], .lst .any 7 (rowsM (minsert key x []))])] (by rfl) ?_ ?_
      · ((repeat' apply And.intro) <;> first | exact kD | (intro hgd; refine ⟨?_, kG⟩; (repeat' apply And.intro) <;> first | exact kD | skip) | skip)
        · exact cloneP_nilf
      (repeat (first | apply kS | apply kB | apply kL | apply kN | refine kA follows_any ?_))
      refine AK.ret ⟨_, rfl, ?_⟩
      rfl
    | cons p m =>
      (repeat (first | apply kS | apply kB | apply kL | apply kN | refine kA follows_any ?_))
      refine kR follows_any [.o 7 (rowsM (p :: m)), .v (.agg [.int .i64 5, .bool false, .int .i64 0, .str ⟨#[]⟩, .lst .any 6 [], .lst .any 7 (rowsM (minsert key x (p :: m)))])] (by rfl) ?_ ?_
      · ((repeat' apply And.intro) <;> first | exact kD | (intro hgd; refine ⟨?_, kG⟩; (repeat' apply And.intro) <;> first | exact kD | skip) | skip)
        · exact cloneP_mf _ (by rw [rowsM_len]; simp) (by rw [rowsM_len]; omega)
        all_goals simp only [rowsM_len, List.length_nil, List.length_cons, List.length_map] at hlm ⊢
        all_goals omega
      (repeat (first | apply kS | apply kB | apply kL | apply kN | refine kA follows_any ?_))
      refine AK.ret ⟨_, rfl, ?_⟩
      rfl
  · have hm := hor.2.1 hk
    rw [hm] at hT ⊢
    refine AC.enter Tryz.func94 a_tree_Put_ok a_tree_Put_cb (by rfl) fun E hE => ?_
    show AK _ _ _ [.c b_tree_Put] _ _
    rw [b_tree_Put]
    (repeat (first | apply kS | apply kB | apply kL | apply kN | refine kA follows_any ?_))
    refine AK.cond (by rfl) (fun hb => ?_) (fun hb => ?_)
    · (repeat (first | apply kS | apply kB | apply kL | apply kN | refine kA follows_any ?_))
      refine kR follows_any [.v (.lst .full 7 []), .v (.agg [.int .i64 5, .bool false, .int .i64 0, .str ⟨#[]⟩, .lst .any 6 [], .lst .any 7 (rowsM (minsert key x []))])] (by rfl) ?_ ?_
      · ((repeat' apply And.intro) <;> first | exact kD | (intro hgd; refine ⟨?_, kG⟩; (repeat' apply And.intro) <;> first | exact kD | skip) | skip)
        · exact cloneP_nilf
      (repeat (first | apply kS | apply kB | apply kL | apply kN | refine kA follows_any ?_))
      refine AK.ret ⟨_, rfl, ?_⟩
      rfl
    · exact absurd (by simpa using hb) hk
theorem treeGet_o (v : V) (key : ByteArray) (ho : v.ord) (hsz : v.size ≤ 1000000000000) : AC Tryz.prog 93 [.agg [.int .i64 (v).kind, .bool (v).b, .int .i64 (v).n, .str (v).s, .lst .any 6 (rowsV (v).l), .lst .any 7 (rowsM (v).m)], .str key] (.tup [.agg [.int .i64 (((mfind key v.m).getD V.null)).kind, .bool (((mfind key v.m).getD V.null)).b, .int .i64 (((mfind key v.m).getD V.null)).n, .str (((mfind key v.m).getD V.null)).s, .lst .any 6 (rowsV (((mfind key v.m).getD V.null)).l), .lst .any 7 (rowsM (((mfind key v.m).getD V.null)).m)], .bool (mfind key v.m).isSome]) := by
  have hve := v.size_eq
  have hlm := len_le_sizeM v.m
  have hor := (V.ord_eq v).1 ho
  have hs := hor.2.2.1
  cases hf : mfind key v.m with
  | none =>
    refine AC.enter Tryz.func93 a_tree_Get_ok a_tree_Get_cb (by rfl) fun E hE => ?_
    show AK _ _ _ [.c b_tree_Get] _ _
    rw [b_tree_Get]
    (repeat (first | apply kS | apply kB | apply kL | apply kN | refine kA follows_any ?_))
    refine AK.cond (by rfl) (fun hb => ?_) (fun hb => ?_)
    · (repeat (first | apply kS | apply kB | apply kL | apply kN | refine kA follows_any ?_))
      refine AK.ret ⟨_, rfl, ?_⟩
      rfl
    (repeat (first | apply kS | apply kB | apply kL | apply kN | refine kA follows_any ?_))
    refine kR follows_any [.v (.tup [.int .i64 (bpos key v.m : Nat), .bool (bfound key v.m)])] (by rfl) ?_ ?_
    · ((repeat' apply And.intro) <;> first | exact kD | (intro hgd; refine ⟨?_, kG⟩; (repeat' apply And.intro) <;> first | exact kD | skip) | skip)
      · exact bsearch_a v.m key hs (by omega)
    rw [bfound_none hf]
    (repeat (first | apply kS | apply kB | apply kL | apply kN | refine kA follows_any ?_))
    refine AK.cond (by rfl) (fun hb => ?_) (fun hb => ?_)
    · (repeat (first | apply kS | apply kB | apply kL | apply kN | refine kA follows_any ?_))
      refine AK.ret ⟨_, rfl, ?_⟩
      rfl
    · cases hb
  | some x =>
    obtain ⟨h1, h2⟩ := bfound_some hs hf
    have hxs := mfind_size hf
    refine AC.enter Tryz.func93 a_tree_Get_ok a_tree_Get_cb (by rfl) fun E hE => ?_
    show AK _ _ _ [.c b_tree_Get] _ _
    rw [b_tree_Get]
    (repeat (first | apply kS | apply kB | apply kL | apply kN | refine kA follows_any ?_))
    refine AK.cond (by rfl) (fun hb => ?_) (fun hb => ?_)
    · have hk : v.kind ≠ 5 := by simpa using hb
      rw [hor.2.1 hk] at hf
      cases hf
    (repeat (first | apply kS | apply kB | apply kL | apply kN | refine kA follows_any ?_))
    refine kR follows_any [.v (.tup [.int .i64 (bpos key v.m : Nat), .bool (bfound key v.m)])] (by rfl) ?_ ?_
    · ((repeat' apply And.intro) <;> first | exact kD | (intro hgd; refine ⟨?_, kG⟩; (repeat' apply And.intro) <;> first | exact kD | skip) | skip)
      · exact bsearch_a v.m key hs (by omega)
    rw [h2]
    (repeat (first | apply kS | apply kB | apply kL | apply kN | refine kA follows_any ?_))
    refine AK.cond (by rfl) (fun hb => ?_) (fun hb => ?_)
    · cases hb
    · (repeat (first | apply kS | apply kB | apply kL | apply kN | refine kA follows_any ?_))
      refine kR follows_any [.c (.str key :: [.int .i64 (x).kind, .bool (x).b, .int .i64 (x).n, .str (x).s, .lst .any 6 (rowsV (x).l), .lst .any 7 (rowsM (x).m)]), .v (.agg [.int .i64 (x).kind, .bool (x).b, .int .i64 (x).n, .str (x).s, .lst .any 6 (rowsV (x).l), .lst .any 7 (rowsM (x).m)])] (by rfl) ?_ ?_
      · ((repeat' apply And.intro) <;> first | exact kD | (intro hgd; refine ⟨?_, kG⟩; (repeat' apply And.intro) <;> first | exact kD | skip) | skip)
        · exact rowsM_at h1
        · exact clone_ok x (by omega)
      (repeat (first | apply kS | apply kB | apply kL | apply kN | refine kA follows_any ?_))
      refine AK.ret ⟨_, rfl, ?_⟩
      rfl
end Go.Proofs.YtgekcnpfflhpkaaGreatDoor
