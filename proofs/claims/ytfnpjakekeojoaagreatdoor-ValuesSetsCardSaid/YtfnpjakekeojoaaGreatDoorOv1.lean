/-
  A value laid over another one: tree.Get, tree.Put, layer.strip, path.Put, walked.
-/
import Derived.Test.YtfnpjakekeojoaaGreatDoorOvP
import Derived.Test.YtfnpjakekeojoaaGreatDoorDriftH
import Derived.Test.YtfnpjakekeojoaaGreatDoorVl3
import Derived.Test.YtfnpjakekeojoaaGreatDoorValA
namespace Go.Proofs.YtfnpjakekeojoaaGreatDoor
set_option linter.unusedSimpArgs false
set_option linter.unusedVariables false
open Go.RowKit

set_option maxRecDepth 100000 in
theorem cloneP_nilf : AC Tryz.prog 70 [.lst .any 7 []] (.lst .full 7 []) := by
  refine ⟨a_slices_Clone_Pair_cb, fun σ w vs hh hr hg => ?_⟩
  obtain ⟨v, rfl⟩ := List.length_eq_one_iff.1 hr.1
  have h1 : Rel1 σ v (.lst .any 7 []) := hr.2 0 v _ rfl rfl
  obtain ⟨A, cap, b, o, news, rfl, _⟩ := lst_cells h1
  have q24 : ∀ (w : World) (a : Option Addr) (n c : Nat), (binOp .eql 23 (.slice a n c) (.slice none 0 0)).run Tryz.prog w = .ok (.bool a.isNone) w := fun w a n c => by simp [binOp, run_equal_slice_nil w _ _ a n c Tryz.underlying23]
  obtain ⟨i0, hi0, _⟩ := info_parts info_pair
  have hrel : ∀ (A : Option Addr), RelR σ (.slice A 0 0) (.lst .full 7 []) := fun A => .lst .full 7 [] A 0 0 0 0 (fun _ _ => undef) rfl (by omega) (fun h => by omega) (fun i c h => by simp at h) (fun i j h => by omega) (fun i j c a h => by simp at h) rfl
  cases A with
  | none =>
    go_enter Tryz.func70, Tryz.ntmps70
    go_wp2
    go_ret
    exact ⟨σ, _, rfl, Ext.refl _ _, hh, Below.refl _ _, hrel none⟩
  | some a =>
    have hrun := fun ty => run_append_zero (P := Tryz.prog) (w.alloc (.cells #[] 51)) 23 ty 51 Tryz.underlying23 hi0 (some ⟨w.heap.size, 0, none⟩) (some a) 0 0 cap (by omega)
    go_enter Tryz.func70, Tryz.ntmps70
    go_wp2_with (at_builtin; refine Lib.wpList_append_run _ rfl _ _ _ _ rfl _ _ rfl rfl _ _ (hrun _) ?_)
    go_wp2
    go_ret
    have hbl : Below w.heap.size w (w.alloc (.cells #[] 51)) := (Below.refl _ _).alloc (Nat.le_refl _) _
    exact ⟨σ, _, rfl, Ext.refl _ _, fun b q v hv => (hbl.cell (p := ⟨b, q, none⟩) (World.block_lt_of_cell? w _ (hh _ _ _ hv))).trans (hh _ _ _ hv), hbl, hrel _⟩
theorem mapOf_put {key : ByteArray} {x : V} {m : List (ByteArray × V)} (h : Rises m) : mapOf (m ++ [(key, x)]) = minsert key x m := by
  have := mapOf_take (l := m ++ [(key, x)]) (k := m.length) (p := (key, x)) (by simp)
  rw [List.take_of_length_le (by simp), List.take_left', mapOf_rises h] at this
  · exact this
  · rfl
/-- tree.Put at a map, or at what is none -/
theorem treePut_o (v : V) (key : ByteArray) (x : V) (ho : v.ord) (hs : v.size + x.size ≤ 1000000000000) : AC Tryz.prog 56 [.agg [.int .i64 (v).kind, .bool (v).b, .int .i64 (v).n, .str (v).s, .lst .any 6 (rowsV (v).l), .lst .any 7 (rowsM (v).m)], .str key, .agg [.int .i64 (x).kind, .bool (x).b, .int .i64 (x).n, .str (x).s, .lst .any 6 (rowsV (x).l), .lst .any 7 (rowsM (x).m)]] (.agg [.int .i64 ((vMap (minsert key x v.m))).kind, .bool ((vMap (minsert key x v.m))).b, .int .i64 ((vMap (minsert key x v.m))).n, .str ((vMap (minsert key x v.m))).s, .lst .any 6 (rowsV ((vMap (minsert key x v.m))).l), .lst .any 7 (rowsM ((vMap (minsert key x v.m))).m)]) := by
  have hor := (V.ord_eq v).1 ho
  have hve := v.size_eq
  have hlm := len_le_sizeM v.m
  have hsz : sizeM (v.m ++ [(key, x)]) ≤ 1000000000000 := by
    have : ∀ m : List (ByteArray × V), sizeM (m ++ [(key, x)]) = sizeM m + x.size := by
      intro m
      induction m with
      | nil => simp [sizeM]
      | cons p m ih => obtain ⟨k, u⟩ := p; simp only [List.cons_append, sizeM, ih]; omega
    rw [this]; omega
  have hT := treeMap_a (v.m ++ [(key, x)]) hsz
  rw [mapOf_put hor.2.2.1, rowsM_append, rowsM, rowsM, cellsV_eq] at hT
  show AC Tryz.prog 56 [.agg [.int .i64 (v).kind, .bool (v).b, .int .i64 (v).n, .str (v).s, .lst .any 6 (rowsV (v).l), .lst .any 7 (rowsM (v).m)], .str key, .agg [.int .i64 (x).kind, .bool (x).b, .int .i64 (x).n, .str (x).s, .lst .any 6 (rowsV (x).l), .lst .any 7 (rowsM (x).m)]] (.agg [.int .i64 5, .bool false, .int .i64 0, .str ⟨#[]⟩, .lst .any 6 [], .lst .any 7 (rowsM (minsert key x v.m))])
  by_cases hk : v.kind = 5
  · have hv := hor.1 hk
    generalize v.m = m at *
    subst hv
    refine AC.enter Tryz.func56 a_tree_Put_ok a_tree_Put_cb (by rfl) fun E hE => ?_
    show AK _ _ _ [.c b_tree_Put] _ _
    rw [b_tree_Put]
    (repeat (first | apply kS | apply kB | apply kL | apply kN | (refine kR follows_any [] (by rfl) ?_ ?_; first | exact kT1 | exact kT2 | exact kT3 | exact kT4)))
    refine AK.cond (by rfl) (fun hb => ?_) (fun hb => ?_)
    · cases hb
    cases m with
    | nil =>
      (repeat (first | apply kS | apply kB | apply kL | apply kN | (refine kR follows_any [] (by rfl) ?_ ?_; first | exact kT1 | exact kT2 | exact kT3 | exact kT4)))
      refine kR follows_any [.v (.lst .full 7 []), .v (.agg [.int .i64 5, .bool false, .int .i64 0, .str ⟨#[]⟩, .lst .any 6 [], .lst .any 7 (rowsM (minsert key x []))])] (by rfl) ?_ ?_
      · ((repeat' apply And.intro) <;> first | trivial | omega | (simp only [List.length_nil, List.length_cons]; omega) | (intro hgd; first | (rw [hgd]; rfl) | (refine ⟨?_, by repeat (first | exact trivial | refine ⟨hgd, ?_⟩)⟩; (repeat' apply And.intro) <;> first | trivial | omega | (intro h2; rw [hgd, h2]; rfl) | skip)) | skip)
        · exact cloneP_nilf
      (repeat (first | apply kS | apply kB | apply kL | apply kN | (refine kR follows_any [] (by rfl) ?_ ?_; first | exact kT1 | exact kT2 | exact kT3 | exact kT4)))
      refine AK.ret ⟨_, rfl, ?_⟩
      rfl
    | cons p m =>
      (repeat (first | apply kS | apply kB | apply kL | apply kN | (refine kR follows_any [] (by rfl) ?_ ?_; first | exact kT1 | exact kT2 | exact kT3 | exact kT4)))
      refine kR follows_any [.o 7 (rowsM (p :: m)), .v (.agg [.int .i64 5, .bool false, .int .i64 0, .str ⟨#[]⟩, .lst .any 6 [], .lst .any 7 (rowsM (minsert key x (p :: m)))])] (by rfl) ?_ ?_
      · ((repeat' apply And.intro) <;> first | trivial | omega | (simp only [List.length_nil, List.length_cons]; omega) | (intro hgd; first | (rw [hgd]; rfl) | (refine ⟨?_, by repeat (first | exact trivial | refine ⟨hgd, ?_⟩)⟩; (repeat' apply And.intro) <;> first | trivial | omega | (intro h2; rw [hgd, h2]; rfl) | skip)) | skip)
        · exact cloneP_mf _ (by rw [rowsM_len]; simp) (by rw [rowsM_len]; omega)
        all_goals simp only [rowsM_len, List.length_nil, List.length_cons, List.length_map] at hlm ⊢
        all_goals omega
      (repeat (first | apply kS | apply kB | apply kL | apply kN | (refine kR follows_any [] (by rfl) ?_ ?_; first | exact kT1 | exact kT2 | exact kT3 | exact kT4)))
      refine AK.ret ⟨_, rfl, ?_⟩
      rfl
  · have hm := hor.2.1 hk
    rw [hm] at hT ⊢
    refine AC.enter Tryz.func56 a_tree_Put_ok a_tree_Put_cb (by rfl) fun E hE => ?_
    show AK _ _ _ [.c b_tree_Put] _ _
    rw [b_tree_Put]
    (repeat (first | apply kS | apply kB | apply kL | apply kN | (refine kR follows_any [] (by rfl) ?_ ?_; first | exact kT1 | exact kT2 | exact kT3 | exact kT4)))
    refine AK.cond (by rfl) (fun hb => ?_) (fun hb => ?_)
    · (repeat (first | apply kS | apply kB | apply kL | apply kN | (refine kR follows_any [] (by rfl) ?_ ?_; first | exact kT1 | exact kT2 | exact kT3 | exact kT4)))
      refine kR follows_any [.v (.lst .full 7 []), .v (.agg [.int .i64 5, .bool false, .int .i64 0, .str ⟨#[]⟩, .lst .any 6 [], .lst .any 7 (rowsM (minsert key x []))])] (by rfl) ?_ ?_
      · ((repeat' apply And.intro) <;> first | trivial | omega | (simp only [List.length_nil, List.length_cons]; omega) | (intro hgd; first | (rw [hgd]; rfl) | (refine ⟨?_, by repeat (first | exact trivial | refine ⟨hgd, ?_⟩)⟩; (repeat' apply And.intro) <;> first | trivial | omega | (intro h2; rw [hgd, h2]; rfl) | skip)) | skip)
        · exact cloneP_nilf
      (repeat (first | apply kS | apply kB | apply kL | apply kN | (refine kR follows_any [] (by rfl) ?_ ?_; first | exact kT1 | exact kT2 | exact kT3 | exact kT4)))
      refine AK.ret ⟨_, rfl, ?_⟩
      rfl
    · exact absurd (by simpa using hb) hk
theorem treeGet_o (v : V) (key : ByteArray) (ho : v.ord) (hsz : v.size ≤ 1000000000000) : AC Tryz.prog 27 [.agg [.int .i64 (v).kind, .bool (v).b, .int .i64 (v).n, .str (v).s, .lst .any 6 (rowsV (v).l), .lst .any 7 (rowsM (v).m)], .str key] (.tup [.agg [.int .i64 (((mfind key v.m).getD V.null)).kind, .bool (((mfind key v.m).getD V.null)).b, .int .i64 (((mfind key v.m).getD V.null)).n, .str (((mfind key v.m).getD V.null)).s, .lst .any 6 (rowsV (((mfind key v.m).getD V.null)).l), .lst .any 7 (rowsM (((mfind key v.m).getD V.null)).m)], .bool (mfind key v.m).isSome]) := by
  have hve := v.size_eq
  have hlm := len_le_sizeM v.m
  have hor := (V.ord_eq v).1 ho
  have hs := hor.2.2.1
  cases hf : mfind key v.m with
  | none =>
    refine AC.enter Tryz.func27 a_tree_Get_ok a_tree_Get_cb (by rfl) fun E hE => ?_
    show AK _ _ _ [.c b_tree_Get] _ _
    rw [b_tree_Get]
    (repeat (first | apply kS | apply kB | apply kL | apply kN | (refine kR follows_any [] (by rfl) ?_ ?_; first | exact kT1 | exact kT2 | exact kT3 | exact kT4)))
    refine AK.cond (by rfl) (fun hb => ?_) (fun hb => ?_)
    · (repeat (first | apply kS | apply kB | apply kL | apply kN | (refine kR follows_any [] (by rfl) ?_ ?_; first | exact kT1 | exact kT2 | exact kT3 | exact kT4)))
      refine AK.ret ⟨_, rfl, ?_⟩
      rfl
    (repeat (first | apply kS | apply kB | apply kL | apply kN | (refine kR follows_any [] (by rfl) ?_ ?_; first | exact kT1 | exact kT2 | exact kT3 | exact kT4)))
    refine kR follows_any [.v (.tup [.int .i64 (bpos key v.m : Nat), .bool (bfound key v.m)])] (by rfl) ?_ ?_
    · ((repeat' apply And.intro) <;> first | trivial | omega | (simp only [List.length_nil, List.length_cons]; omega) | (intro hgd; first | (rw [hgd]; rfl) | (refine ⟨?_, by repeat (first | exact trivial | refine ⟨hgd, ?_⟩)⟩; (repeat' apply And.intro) <;> first | trivial | omega | (intro h2; rw [hgd, h2]; rfl) | skip)) | skip)
      · exact bsearch_a v.m key hs (by omega)
    rw [bfound_none hf]
    (repeat (first | apply kS | apply kB | apply kL | apply kN | (refine kR follows_any [] (by rfl) ?_ ?_; first | exact kT1 | exact kT2 | exact kT3 | exact kT4)))
    refine AK.cond (by rfl) (fun hb => ?_) (fun hb => ?_)
    · (repeat (first | apply kS | apply kB | apply kL | apply kN | (refine kR follows_any [] (by rfl) ?_ ?_; first | exact kT1 | exact kT2 | exact kT3 | exact kT4)))
      refine AK.ret ⟨_, rfl, ?_⟩
      rfl
    · cases hb
  | some x =>
    obtain ⟨h1, h2⟩ := bfound_some hs hf
    have hxs := mfind_size hf
    refine AC.enter Tryz.func27 a_tree_Get_ok a_tree_Get_cb (by rfl) fun E hE => ?_
    show AK _ _ _ [.c b_tree_Get] _ _
    rw [b_tree_Get]
    (repeat (first | apply kS | apply kB | apply kL | apply kN | (refine kR follows_any [] (by rfl) ?_ ?_; first | exact kT1 | exact kT2 | exact kT3 | exact kT4)))
    refine AK.cond (by rfl) (fun hb => ?_) (fun hb => ?_)
    · have hk : v.kind ≠ 5 := by simpa using hb
      rw [hor.2.1 hk] at hf
      cases hf
    (repeat (first | apply kS | apply kB | apply kL | apply kN | (refine kR follows_any [] (by rfl) ?_ ?_; first | exact kT1 | exact kT2 | exact kT3 | exact kT4)))
    refine kR follows_any [.v (.tup [.int .i64 (bpos key v.m : Nat), .bool (bfound key v.m)])] (by rfl) ?_ ?_
    · ((repeat' apply And.intro) <;> first | trivial | omega | (simp only [List.length_nil, List.length_cons]; omega) | (intro hgd; first | (rw [hgd]; rfl) | (refine ⟨?_, by repeat (first | exact trivial | refine ⟨hgd, ?_⟩)⟩; (repeat' apply And.intro) <;> first | trivial | omega | (intro h2; rw [hgd, h2]; rfl) | skip)) | skip)
      · exact bsearch_a v.m key hs (by omega)
    rw [h2]
    (repeat (first | apply kS | apply kB | apply kL | apply kN | (refine kR follows_any [] (by rfl) ?_ ?_; first | exact kT1 | exact kT2 | exact kT3 | exact kT4)))
    refine AK.cond (by rfl) (fun hb => ?_) (fun hb => ?_)
    · cases hb
    · (repeat (first | apply kS | apply kB | apply kL | apply kN | (refine kR follows_any [] (by rfl) ?_ ?_; first | exact kT1 | exact kT2 | exact kT3 | exact kT4)))
      refine kR follows_any [.c (.str key :: [.int .i64 (x).kind, .bool (x).b, .int .i64 (x).n, .str (x).s, .lst .any 6 (rowsV (x).l), .lst .any 7 (rowsM (x).m)]), .v (.agg [.int .i64 (x).kind, .bool (x).b, .int .i64 (x).n, .str (x).s, .lst .any 6 (rowsV (x).l), .lst .any 7 (rowsM (x).m)])] (by rfl) ?_ ?_
      · ((repeat' apply And.intro) <;> first | trivial | omega | (simp only [List.length_nil, List.length_cons]; omega) | (intro hgd; first | (rw [hgd]; rfl) | (refine ⟨?_, by repeat (first | exact trivial | refine ⟨hgd, ?_⟩)⟩; (repeat' apply And.intro) <;> first | trivial | omega | (intro h2; rw [hgd, h2]; rfl) | skip)) | skip)
        · exact rowsM_at h1
        · exact clone_ok x (by omega)
      (repeat (first | apply kS | apply kB | apply kL | apply kN | (refine kR follows_any [] (by rfl) ?_ ?_; first | exact kT1 | exact kT2 | exact kT3 | exact kT4)))
      refine AK.ret ⟨_, rfl, ?_⟩
      rfl
theorem strip_a (n : Nat) : ∀ v : V, v.size ≤ n → v.ord → v.size ≤ 1000000 → AC Tryz.prog 54 [.agg [.int .i64 (v).kind, .bool (v).b, .int .i64 (v).n, .str (v).s, .lst .any 6 (rowsV (v).l), .lst .any 7 (rowsM (v).m)]] (.agg [.int .i64 ((stripN n v)).kind, .bool ((stripN n v)).b, .int .i64 ((stripN n v)).n, .str ((stripN n v)).s, .lst .any 6 (rowsV ((stripN n v)).l), .lst .any 7 (rowsM ((stripN n v)).m)]) := by
  induction n with
  | zero => intro v h; have := v.size_pos; omega
  | succ n ih =>
    intro v hn ho hsz
    have hve := v.size_eq
    have hlm := len_le_sizeM v.m
    have hor := (V.ord_eq v).1 ho
    have hM := treeMap_a [] (by simp [sizeM])
    have hC := clone_ok v (by omega)
    refine AC.enter Tryz.func54 a_layer_strip_ok a_layer_strip_cb (by rfl) fun E hE => ?_
    show AK _ _ _ [.c b_layer_strip] _ _
    rw [b_layer_strip]
    (repeat (first | apply kS | apply kB | apply kL | apply kN | (refine kR follows_any [] (by rfl) ?_ ?_; first | exact kT1 | exact kT2 | exact kT3 | exact kT4)))
    refine AK.cond (by rfl) (fun hb => ?_) (fun hb => ?_)
    · have hk : ¬ v.kind = 5 := by simpa using hb
      have hst : stripN (n + 1) v = v := by rw [stripN, if_neg hk]
      (repeat (first | apply kS | apply kB | apply kL | apply kN | (refine kR follows_any [] (by rfl) ?_ ?_; first | exact kT1 | exact kT2 | exact kT3 | exact kT4)))
      refine kR follows_any [.v (.agg [.int .i64 (v).kind, .bool (v).b, .int .i64 (v).n, .str (v).s, .lst .any 6 (rowsV (v).l), .lst .any 7 (rowsM (v).m)])] (by rfl) ?_ ?_
      · ((repeat' apply And.intro) <;> first | trivial | omega | (simp only [List.length_nil, List.length_cons]; omega) | (intro hgd; first | (rw [hgd]; rfl) | (refine ⟨?_, by repeat (first | exact trivial | refine ⟨hgd, ?_⟩)⟩; (repeat' apply And.intro) <;> first | trivial | omega | (intro h2; rw [hgd, h2]; rfl) | skip)) | skip)
      (repeat (first | apply kS | apply kB | apply kL | apply kN | (refine kR follows_any [] (by rfl) ?_ ?_; first | exact kT1 | exact kT2 | exact kT3 | exact kT4)))
      refine AK.ret ⟨_, rfl, ?_⟩
      rw [hst]
      rfl
    · have hk : v.kind = 5 := by simpa using hb
      have hst : stripN (n + 1) v = vMap (stripM (stripN n) v.m) := by rw [stripN, if_pos hk]
      (repeat (first | apply kS | apply kB | apply kL | apply kN | (refine kR follows_any [] (by rfl) ?_ ?_; first | exact kT1 | exact kT2 | exact kT3 | exact kT4)))
      refine kR follows_any [.v (.agg [.int .i64 ((vMap [])).kind, .bool ((vMap [])).b, .int .i64 ((vMap [])).n, .str ((vMap [])).s, .lst .any 6 (rowsV ((vMap [])).l), .lst .any 7 (rowsM ((vMap [])).m)])] (by rfl) ?_ ?_
      · ((repeat' apply And.intro) <;> first | trivial | omega | (simp only [List.length_nil, List.length_cons]; omega) | (intro hgd; first | (rw [hgd]; rfl) | (refine ⟨?_, by repeat (first | exact trivial | refine ⟨hgd, ?_⟩)⟩; (repeat' apply And.intro) <;> first | trivial | omega | (intro h2; rw [hgd, h2]; rfl) | skip)) | skip)
      (repeat (first | apply kS | apply kB | apply kL | apply kN | (refine kR follows_any [] (by rfl) ?_ ?_; first | exact kT1 | exact kT2 | exact kT3 | exact kT4)))
      refine AK.loopI (fun k : Nat => (frOf [(1, .ptr 1 0), (2, .ptr 2 0), (3, .ptr 3 0), (13, .lst .any 7 (rowsM v.m)), (14, .int .i64 (rowsM v.m).length), (15, .int .i64 k)], ⟨boxOf [(1, [.int .i64 (v).kind, .bool (v).b, .int .i64 (v).n, .str (v).s, .lst .any 6 (rowsV (v).l), .lst .any 7 (rowsM (v).m)], false), (2, [.int .i64 0, .bool false, .int .i64 0, .str ⟨#[]⟩, .lst .nil 6 [], .lst .nil 7 []], false), (3, [.int .i64 ((vMap (stripM (stripN n) (v.m.take k)))).kind, .bool ((vMap (stripM (stripN n) (v.m.take k)))).b, .int .i64 ((vMap (stripM (stripN n) (v.m.take k)))).n, .str ((vMap (stripM (stripN n) (v.m.take k)))).s, .lst .any 6 (rowsV ((vMap (stripM (stripN n) (v.m.take k)))).l), .lst .any 7 (rowsM ((vMap (stripM (stripN n) (v.m.take k)))).m)], false)], fun _ => 0⟩)) (fun k => k ≤ v.m.length) (fun k => v.m.length - k) 0 (by omega) (Weak.intro ⟨⟨_, rfl, .refl _⟩, ⟨_, rfl, .refl _⟩, ⟨_, rfl, .refl _⟩, ⟨_, rfl, .refl _⟩, ⟨_, rfl, .refl _⟩, ⟨_, rfl, .refl _⟩, trivial⟩ ⟨⟨_, rfl, leL_refl _⟩, ⟨_, rfl, leL_refl _⟩, ⟨_, rfl, leL_refl _⟩, trivial⟩ rfl rfl) fun k hk => ?_
      (repeat (first | apply kS | apply kB | apply kL | apply kN | (refine kR follows_any [] (by rfl) ?_ ?_; first | exact kT1 | exact kT2 | exact kT3 | exact kT4)))
      refine AK.cond (by rfl) (fun hb => ?_) (fun hb => ?_)
      · have hlt : k < v.m.length := by simpa [rowsM_len] using hb
        obtain ⟨⟨y, x⟩, hg⟩ : ∃ x, v.m[k]? = some x := ⟨_, List.getElem?_eq_getElem hlt⟩
        have hxs := mem_sizeM (List.mem_of_getElem? hg)
        simp only at hxs
        have hxo := hor.2.2.2 _ (List.mem_of_getElem? hg)
        have hts := stripM_take (f := stripN n) hg
        (repeat (first | apply kS | apply kB | apply kL | apply kN | (refine kR follows_any [] (by rfl) ?_ ?_; first | exact kT1 | exact kT2 | exact kT3 | exact kT4)))
        refine kR follows_any [.c (.str y :: [.int .i64 (x).kind, .bool (x).b, .int .i64 (x).n, .str (x).s, .lst .any 6 (rowsV (x).l), .lst .any 7 (rowsM (x).m)])] (by rfl) ?_ ?_
        · ((repeat' apply And.intro) <;> first | trivial | omega | (simp only [List.length_nil, List.length_cons]; omega) | (intro hgd; first | (rw [hgd]; rfl) | (refine ⟨?_, by repeat (first | exact trivial | refine ⟨hgd, ?_⟩)⟩; (repeat' apply And.intro) <;> first | trivial | omega | (intro h2; rw [hgd, h2]; rfl) | skip)) | skip)
          · exact rowsM_at hg
        (repeat (first | apply kS | apply kB | apply kL | apply kN | (refine kR follows_any [] (by rfl) ?_ ?_; first | exact kT1 | exact kT2 | exact kT3 | exact kT4)))
        refine AK.cond (by rfl) (fun hb => ?_) (fun hb => ?_)
        · have hx0 : ¬ x.kind = 0 := by simpa using hb
          have hin : ∀ p ∈ v.m, (stripN n p.2).ord ∧ (stripN n p.2).size ≤ p.2.size := fun p hp => by
            have := mem_sizeM (p := p) hp
            exact strip_facts n p.2 (by omega) (hor.2.2.2 p hp)
          have hro : (vMap (stripM (stripN n) (v.m.take k))).ord := by
            refine vMap_ord (stripM_rises (List.Pairwise.sublist (List.take_sublist _ _) hor.2.2.1)) fun q hq => ?_
            obtain ⟨z, hz, e⟩ := stripM_mem hq
            rw [e]; exact (hin _ (List.mem_of_mem_take hz)).1
          have hsz1 := stripM_size (f := stripN n) (m := v.m.take k) fun p hp => (hin p (List.mem_of_mem_take hp)).2
          have hsz2 := sizeM_take_le v.m k
          have hsz3 := (strip_facts n x (by omega) hxo).2
          have hlast : minsert y (stripN n x) (stripM (stripN n) (v.m.take k)) = stripM (stripN n) (v.m.take k) ++ [(y, stripN n x)] := by
            refine minsert_last fun p hp => ?_
            obtain ⟨z, hz, _⟩ := stripM_mem hp
            obtain ⟨j, hj⟩ := List.getElem?_of_mem hz
            have hjk : j < k := by
              have := (List.getElem?_eq_some_iff.1 hj).1
              rw [List.length_take] at this; omega
            rw [List.getElem?_take, if_pos hjk] at hj
            obtain ⟨q1, e1⟩ := List.getElem?_eq_some_iff.1 hj
            obtain ⟨q2, e2⟩ := List.getElem?_eq_some_iff.1 hg
            have := List.pairwise_iff_getElem.1 hor.2.2.1 j k q1 q2 hjk
            rw [e1, e2] at this
            exact this
          have hP := treePut_o (vMap (stripM (stripN n) (v.m.take k))) y (stripN n x) hro (by rw [vMap_size]; omega)
          rw [show (vMap (stripM (stripN n) (v.m.take k))).m = stripM (stripN n) (v.m.take k) from rfl, hlast] at hP
          have hI := ih x (by omega) hxo (by omega)
          (repeat (first | apply kS | apply kB | apply kL | apply kN | (refine kR follows_any [] (by rfl) ?_ ?_; first | exact kT1 | exact kT2 | exact kT3 | exact kT4)))
          refine kR follows_any [.v (.agg [.int .i64 ((stripN n x)).kind, .bool ((stripN n x)).b, .int .i64 ((stripN n x)).n, .str ((stripN n x)).s, .lst .any 6 (rowsV ((stripN n x)).l), .lst .any 7 (rowsM ((stripN n x)).m)]), .v (.agg [.int .i64 ((vMap (stripM (stripN n) (v.m.take k) ++ [(y, stripN n x)]))).kind, .bool ((vMap (stripM (stripN n) (v.m.take k) ++ [(y, stripN n x)]))).b, .int .i64 ((vMap (stripM (stripN n) (v.m.take k) ++ [(y, stripN n x)]))).n, .str ((vMap (stripM (stripN n) (v.m.take k) ++ [(y, stripN n x)]))).s, .lst .any 6 (rowsV ((vMap (stripM (stripN n) (v.m.take k) ++ [(y, stripN n x)]))).l), .lst .any 7 (rowsM ((vMap (stripM (stripN n) (v.m.take k) ++ [(y, stripN n x)]))).m)])] (by rfl) ?_ ?_
          · ((repeat' apply And.intro) <;> first | trivial | omega | (simp only [List.length_nil, List.length_cons]; omega) | (intro hgd; first | (rw [hgd]; rfl) | (refine ⟨?_, by repeat (first | exact trivial | refine ⟨hgd, ?_⟩)⟩; (repeat' apply And.intro) <;> first | trivial | omega | (intro h2; rw [hgd, h2]; rfl) | skip)) | skip)
          (repeat (first | apply kS | apply kB | apply kL | apply kN | (refine kR follows_any [] (by rfl) ?_ ?_; first | exact kT1 | exact kT2 | exact kT3 | exact kT4)))
          exact AK.lp ⟨k + 1, by omega, Weak.intro ⟨⟨_, rfl, .refl _⟩, ⟨_, rfl, .refl _⟩, ⟨_, rfl, .refl _⟩, ⟨_, rfl, .refl _⟩, ⟨_, rfl, .refl _⟩, ⟨_, rfl, .of_eq (congrArg _ (by first | omega | (rw [wrap_in (by omega) (by omega)]; omega)))⟩, trivial⟩ ⟨⟨_, rfl, leL_refl _⟩, ⟨_, rfl, leL_refl _⟩, ⟨_, rfl, leL_of_eq (by rw [hts, if_neg hx0])⟩, trivial⟩ rfl rfl, by omega⟩
        · have hx0 : x.kind = 0 := by simpa using hb
          (repeat (first | apply kS | apply kB | apply kL | apply kN | (refine kR follows_any [] (by rfl) ?_ ?_; first | exact kT1 | exact kT2 | exact kT3 | exact kT4)))
          exact AK.lp ⟨k + 1, by omega, Weak.intro ⟨⟨_, rfl, .refl _⟩, ⟨_, rfl, .refl _⟩, ⟨_, rfl, .refl _⟩, ⟨_, rfl, .refl _⟩, ⟨_, rfl, .refl _⟩, ⟨_, rfl, .of_eq (congrArg _ (by first | omega | (rw [wrap_in (by omega) (by omega)]; omega)))⟩, trivial⟩ ⟨⟨_, rfl, leL_refl _⟩, ⟨_, rfl, leL_refl _⟩, ⟨_, rfl, leL_of_eq (by rw [hts, if_pos hx0, List.append_nil])⟩, trivial⟩ rfl rfl, by omega⟩
      · have hlt : k = v.m.length := by have : v.m.length ≤ k := by simpa [rowsM_len] using hb
                                        omega
        subst hlt
        rw [List.take_length]
        refine AK.exit rfl ?_
        (repeat (first | apply kS | apply kB | apply kL | apply kN | (refine kR follows_any [] (by rfl) ?_ ?_; first | exact kT1 | exact kT2 | exact kT3 | exact kT4)))
        refine AK.ret ⟨_, rfl, ?_⟩
        rw [hst]
        rfl
theorem rowsP_tail (s : ByteArray) (l : List ByteArray) (n : Nat) (h : n = (rowsP (s :: l)).length) : ((rowsP (s :: l)).take n).drop 1 = rowsP l := by
  subst h
  rw [List.take_length]
  rfl
/-- path.Put at nothing -/
theorem pathPut_a (x : V) (hx : x.size ≤ 1000000) (hxo : x.ord) : ∀ (l : List ByteArray) (v : V), l.length ≤ 1000 → (v = V.null ∨ v = vMap []) → l ≠ [] ∨ v = V.null → AC Tryz.prog 31 [.agg [.int .i64 (v).kind, .bool (v).b, .int .i64 (v).n, .str (v).s, .lst .any 6 (rowsV (v).l), .lst .any 7 (rowsM (v).m)], .agg [.int .i64 (x).kind, .bool (x).b, .int .i64 (x).n, .str (x).s, .lst .any 6 (rowsV (x).l), .lst .any 7 (rowsM (x).m)], .lst .any 1 (rowsP l)] (.agg [.int .i64 ((nest x l)).kind, .bool ((nest x l)).b, .int .i64 ((nest x l)).n, .str ((nest x l)).s, .lst .any 6 (rowsV ((nest x l)).l), .lst .any 7 (rowsM ((nest x l)).m)]) := by
  intro l
  induction l with
  | nil =>
    intro v _ hv _
    have hC := clone_ok x (by omega)
    refine AC.enter Tryz.func31 a_path_Put_ok a_path_Put_cb (by rfl) fun E hE => ?_
    show AK _ _ _ [.c b_path_Put] _ _
    rw [b_path_Put]
    (repeat (first | apply kS | apply kB | apply kL | apply kN | (refine kR follows_any [] (by rfl) ?_ ?_; first | exact kT1 | exact kT2 | exact kT3 | exact kT4)))
    refine AK.cond (by rfl) (fun hb => ?_) (fun hb => ?_)
    · (repeat (first | apply kS | apply kB | apply kL | apply kN | (refine kR follows_any [] (by rfl) ?_ ?_; first | exact kT1 | exact kT2 | exact kT3 | exact kT4)))
      refine kR follows_any [.v (.agg [.int .i64 (x).kind, .bool (x).b, .int .i64 (x).n, .str (x).s, .lst .any 6 (rowsV (x).l), .lst .any 7 (rowsM (x).m)])] (by rfl) ?_ ?_
      · ((repeat' apply And.intro) <;> first | trivial | omega | (simp only [List.length_nil, List.length_cons]; omega) | (intro hgd; first | (rw [hgd]; rfl) | (refine ⟨?_, by repeat (first | exact trivial | refine ⟨hgd, ?_⟩)⟩; (repeat' apply And.intro) <;> first | trivial | omega | (intro h2; rw [hgd, h2]; rfl) | skip)) | skip)
      (repeat (first | apply kS | apply kB | apply kL | apply kN | (refine kR follows_any [] (by rfl) ?_ ?_; first | exact kT1 | exact kT2 | exact kT3 | exact kT4)))
      refine AK.ret ⟨_, rfl, ?_⟩
      rfl
    · simp [rowsP] at hb
  | cons s l ih =>
    intro v hl hv _
    have hpl : (rowsP (s :: l)).length = l.length + 1 := by simp [rowsP]
    have hl' : l.length ≤ 1000 := by simp at hl; omega
    have hvo : v.ord := by
      rcases hv with rfl | rfl
      · exact null_ord
      · exact vMap_ord List.Pairwise.nil (fun p h => by cases h)
    have hvm : v.m = [] := by rcases hv with rfl | rfl <;> rfl
    have hvs : v.size = 1 := by rw [V.size_eq, hvm]; rcases hv with rfl | rfl <;> rfl
    have hG := treeGet_o v s hvo (by omega)
    rw [show mfind s v.m = none by rw [hvm]; rfl] at hG
    have hI := ih V.null hl' (.inl rfl) (.inr rfl)
    have hns := nest_size x l
    have hP := treePut_o v s (nest x l) hvo (by omega)
    rw [show minsert s (nest x l) v.m = [(s, nest x l)] by rw [hvm]; rfl] at hP
    refine AC.enter Tryz.func31 a_path_Put_ok a_path_Put_cb (by rfl) fun E hE => ?_
    show AK _ _ _ [.c b_path_Put] _ _
    rw [b_path_Put]
    (repeat (first | apply kS | apply kB | apply kL | apply kN | (refine kR follows_any [] (by rfl) ?_ ?_; first | exact kT1 | exact kT2 | exact kT3 | exact kT4)))
    refine AK.cond (by rfl) (fun hb => ?_) (fun hb => ?_)
    · simp [rowsP] at hb <;> omega
    (repeat (first | apply kS | apply kB | apply kL | apply kN | (refine kR follows_any [] (by rfl) ?_ ?_; first | exact kT1 | exact kT2 | exact kT3 | exact kT4)))
    refine kR follows_any [.c [.str s], .v (.tup [.agg [.int .i64 (V.null).kind, .bool (V.null).b, .int .i64 (V.null).n, .str (V.null).s, .lst .any 6 (rowsV (V.null).l), .lst .any 7 (rowsM (V.null).m)], .bool false])] (by rfl) ?_ ?_
    · ((repeat' apply And.intro) <;> first | trivial | omega | (simp only [List.length_nil, List.length_cons]; omega) | (intro hgd; first | (rw [hgd]; rfl) | (refine ⟨?_, by repeat (first | exact trivial | refine ⟨hgd, ?_⟩)⟩; (repeat' apply And.intro) <;> first | trivial | omega | (intro h2; rw [hgd, h2]; rfl) | skip)) | skip)
    (repeat (first | apply kS | apply kB | apply kL | apply kN | (refine kR follows_any [] (by rfl) ?_ ?_; first | exact kT1 | exact kT2 | exact kT3 | exact kT4)))
    refine kR follows_any [.c [.str s], .v (.agg [.int .i64 ((nest x l)).kind, .bool ((nest x l)).b, .int .i64 ((nest x l)).n, .str ((nest x l)).s, .lst .any 6 (rowsV ((nest x l)).l), .lst .any 7 (rowsM ((nest x l)).m)]), .v (.agg [.int .i64 ((nest x (s :: l))).kind, .bool ((nest x (s :: l))).b, .int .i64 ((nest x (s :: l))).n, .str ((nest x (s :: l))).s, .lst .any 6 (rowsV ((nest x (s :: l))).l), .lst .any 7 (rowsM ((nest x (s :: l))).m)])] (by rfl) ?_ ?_
    · ((repeat' apply And.intro) <;> first | trivial | omega | (simp only [List.length_nil, List.length_cons]; omega) | (intro hgd; first | (rw [hgd]; rfl) | (refine ⟨?_, by repeat (first | exact trivial | refine ⟨hgd, ?_⟩)⟩; (repeat' apply And.intro) <;> first | trivial | omega | (intro h2; rw [hgd, h2]; rfl) | skip)) | skip)
      · rw [show List.drop (Int.toNat 1) (List.take ((rowsP (s :: l)).length : Int).toNat (rowsP (s :: l))) = rowsP l from rowsP_tail s l _ (by simp)]; exact hI
    (repeat (first | apply kS | apply kB | apply kL | apply kN | (refine kR follows_any [] (by rfl) ?_ ?_; first | exact kT1 | exact kT2 | exact kT3 | exact kT4)))
    refine AK.ret ⟨_, rfl, ?_⟩
    rfl
end Go.Proofs.YtfnpjakekeojoaaGreatDoor
/-
  A value laid over another one: layer.Over and the document's, walked.
-/
namespace Go.Proofs.YtfnpjakekeojoaaGreatDoor
set_option linter.unusedSimpArgs false
set_option linter.unusedVariables false
open Go.RowKit

/-- tree.Drop at a map (proved in its own text) -/
def DropOk : Prop := ∀ (m : List (ByteArray × V)) (key : ByteArray), Rises m → sizeM m ≤ 4000000 → AC Tryz.prog 55 [.agg [.int .i64 ((vMap m)).kind, .bool ((vMap m)).b, .int .i64 ((vMap m)).n, .str ((vMap m)).s, .lst .any 6 (rowsV ((vMap m)).l), .lst .any 7 (rowsM ((vMap m)).m)], .str key] (.agg [.int .i64 ((vMap (fdrop key m))).kind, .bool ((vMap (fdrop key m))).b, .int .i64 ((vMap (fdrop key m))).n, .str ((vMap (fdrop key m))).s, .lst .any 6 (rowsV ((vMap (fdrop key m))).l), .lst .any 7 (rowsM ((vMap (fdrop key m))).m)])
theorem over_a (hD : DropOk) (n : Nat) : ∀ a b : V, b.size ≤ n → a.ord → b.ord → a.size + 2 * b.size ≤ 4000000 → b.size ≤ 1000000 → AC Tryz.prog 30 [.agg [.int .i64 (a).kind, .bool (a).b, .int .i64 (a).n, .str (a).s, .lst .any 6 (rowsV (a).l), .lst .any 7 (rowsM (a).m)], .agg [.int .i64 (b).kind, .bool (b).b, .int .i64 (b).n, .str (b).s, .lst .any 6 (rowsV (b).l), .lst .any 7 (rowsM (b).m)]] (.agg [.int .i64 ((overN n a b)).kind, .bool ((overN n a b)).b, .int .i64 ((overN n a b)).n, .str ((overN n a b)).s, .lst .any 6 (rowsV ((overN n a b)).l), .lst .any 7 (rowsM ((overN n a b)).m)]) := by
  induction n with
  | zero => intro a b h; have := b.size_pos; omega
  | succ n ih =>
    intro a b hn ha hb0 hsz hbz
    have hae := a.size_eq
    have hbe := b.size_eq
    have hlb := len_le_sizeM b.m
    have hao := (V.ord_eq a).1 ha
    have hbo := (V.ord_eq b).1 hb0
    by_cases hk : a.kind = 5 ∧ b.kind = 5
    · have hst : overN (n + 1) a b = vMap (foldO (overN n) a.m b.m) := by rw [overN, if_pos hk, foldO_merge _ _ _ (Nat.le_refl _) hao.2.2.1 hbo.2.2.1]
      have hav := hao.1 hk.1
      have hC := clone_ok a (by omega)
      rw [hst]
      refine AC.enter Tryz.func30 a_layer_Over_ok a_layer_Over_cb (by rfl) fun E hE => ?_
      show AK _ _ _ [.c b_layer_Over] _ _
      rw [b_layer_Over]
      (repeat (first | apply kS | apply kB | apply kL | apply kN | (refine kR follows_any [] (by rfl) ?_ ?_; first | exact kT1 | exact kT2 | exact kT3 | exact kT4)))
      refine kR follows_any [] (by rfl) ?_ ?_
      · ((repeat' apply And.intro) <;> first | trivial | omega | (simp only [List.length_nil, List.length_cons]; omega) | (intro hgd; first | (rw [hgd]; rfl) | (refine ⟨?_, by repeat (first | exact trivial | refine ⟨hgd, ?_⟩)⟩; (repeat' apply And.intro) <;> first | trivial | omega | (intro h2; rw [hgd, h2]; rfl) | skip)) | skip)
      refine AK.cond (by rfl) (fun hb => ?_) (fun hb => ?_)
      · exfalso
        simp [hk.1, hk.2] at hb
      (repeat (first | apply kS | apply kB | apply kL | apply kN | (refine kR follows_any [] (by rfl) ?_ ?_; first | exact kT1 | exact kT2 | exact kT3 | exact kT4)))
      refine kR follows_any [.v (.agg [.int .i64 (a).kind, .bool (a).b, .int .i64 (a).n, .str (a).s, .lst .any 6 (rowsV (a).l), .lst .any 7 (rowsM (a).m)])] (by rfl) ?_ ?_
      · ((repeat' apply And.intro) <;> first | trivial | omega | (simp only [List.length_nil, List.length_cons]; omega) | (intro hgd; first | (rw [hgd]; rfl) | (refine ⟨?_, by repeat (first | exact trivial | refine ⟨hgd, ?_⟩)⟩; (repeat' apply And.intro) <;> first | trivial | omega | (intro h2; rw [hgd, h2]; rfl) | skip)) | skip)
      (repeat (first | apply kS | apply kB | apply kL | apply kN | (refine kR follows_any [] (by rfl) ?_ ?_; first | exact kT1 | exact kT2 | exact kT3 | exact kT4)))
      refine AK.loopI (fun k : Nat => (frOf [(2, .ptr 2 0), (3, .ptr 3 0), (4, .ptr 4 0), (5, .ptr 5 0), (23, .lst .any 7 (rowsM b.m)), (24, .int .i64 (rowsM b.m).length), (25, .int .i64 k)], ⟨boxOf [(2, [.int .i64 (a).kind, .bool (a).b, .int .i64 (a).n, .str (a).s, .lst .any 6 (rowsV (a).l), .lst .any 7 (rowsM (a).m)], false), (3, [.int .i64 (b).kind, .bool (b).b, .int .i64 (b).n, .str (b).s, .lst .any 6 (rowsV (b).l), .lst .any 7 (rowsM (b).m)], false), (4, [.int .i64 0, .bool false, .int .i64 0, .str ⟨#[]⟩, .lst .nil 6 [], .lst .nil 7 []], false), (5, [.int .i64 ((vMap (foldO (overN n) a.m (b.m.take k)))).kind, .bool ((vMap (foldO (overN n) a.m (b.m.take k)))).b, .int .i64 ((vMap (foldO (overN n) a.m (b.m.take k)))).n, .str ((vMap (foldO (overN n) a.m (b.m.take k)))).s, .lst .any 6 (rowsV ((vMap (foldO (overN n) a.m (b.m.take k)))).l), .lst .any 7 (rowsM ((vMap (foldO (overN n) a.m (b.m.take k)))).m)], false)], fun _ => 0⟩)) (fun k => k ≤ b.m.length) (fun k => b.m.length - k) 0 (by omega) (Weak.intro ⟨⟨_, rfl, .refl _⟩, ⟨_, rfl, .refl _⟩, ⟨_, rfl, .refl _⟩, ⟨_, rfl, .refl _⟩, ⟨_, rfl, .refl _⟩, ⟨_, rfl, .refl _⟩, ⟨_, rfl, .refl _⟩, trivial⟩ ⟨⟨_, rfl, leL_refl _⟩, ⟨_, rfl, leL_refl _⟩, ⟨_, rfl, leL_refl _⟩, ⟨_, rfl, leL_of_eq (by rw [List.take_zero, show foldO (overN n) a.m [] = a.m from rfl, ← hav])⟩, trivial⟩ rfl rfl) fun k hk2 => ?_
      obtain ⟨hfr, hfo, hfs⟩ := foldO_le (n := n) k hn ha hb0
      generalize hF : foldO (overN n) a.m (b.m.take k) = F at *
      (repeat (first | apply kS | apply kB | apply kL | apply kN | (refine kR follows_any [] (by rfl) ?_ ?_; first | exact kT1 | exact kT2 | exact kT3 | exact kT4)))
      refine AK.cond (by rfl) (fun hb => ?_) (fun hb => ?_)
      · have hlt : k < b.m.length := by simpa [rowsM_len] using hb
        obtain ⟨⟨y, x⟩, hg⟩ : ∃ x, b.m[k]? = some x := ⟨_, List.getElem?_eq_getElem hlt⟩
        have hxs := mem_sizeM (List.mem_of_getElem? hg)
        simp only at hxs
        have hxo := hbo.2.2.2 _ (List.mem_of_getElem? hg)
        have hts := foldO_take (f := overN n) (a := a.m) hg
        rw [hF] at hts
        (repeat (first | apply kS | apply kB | apply kL | apply kN | (refine kR follows_any [] (by rfl) ?_ ?_; first | exact kT1 | exact kT2 | exact kT3 | exact kT4)))
        refine kR follows_any [.c (.str y :: [.int .i64 (x).kind, .bool (x).b, .int .i64 (x).n, .str (x).s, .lst .any 6 (rowsV (x).l), .lst .any 7 (rowsM (x).m)])] (by rfl) ?_ ?_
        · ((repeat' apply And.intro) <;> first | trivial | omega | (simp only [List.length_nil, List.length_cons]; omega) | (intro hgd; first | (rw [hgd]; rfl) | (refine ⟨?_, by repeat (first | exact trivial | refine ⟨hgd, ?_⟩)⟩; (repeat' apply And.intro) <;> first | trivial | omega | (intro h2; rw [hgd, h2]; rfl) | skip)) | skip)
          · exact rowsM_at hg
        (repeat (first | apply kS | apply kB | apply kL | apply kN | (refine kR follows_any [] (by rfl) ?_ ?_; first | exact kT1 | exact kT2 | exact kT3 | exact kT4)))
        refine AK.cond (by rfl) (fun hb => ?_) (fun hb => ?_)
        · have hx0 : x.kind = 0 := by simpa using hb
          have hDr := hD F y hfr (by omega)
          have hts2 : foldO (overN n) a.m (b.m.take (k + 1)) = fdrop y F := by rw [hts, stepO, if_pos hx0]
          (repeat (first | apply kS | apply kB | apply kL | apply kN | (refine kR follows_any [] (by rfl) ?_ ?_; first | exact kT1 | exact kT2 | exact kT3 | exact kT4)))
          refine kR follows_any [.v (.agg [.int .i64 ((vMap (fdrop y F))).kind, .bool ((vMap (fdrop y F))).b, .int .i64 ((vMap (fdrop y F))).n, .str ((vMap (fdrop y F))).s, .lst .any 6 (rowsV ((vMap (fdrop y F))).l), .lst .any 7 (rowsM ((vMap (fdrop y F))).m)])] (by rfl) ?_ ?_
          · ((repeat' apply And.intro) <;> first | trivial | omega | (simp only [List.length_nil, List.length_cons]; omega) | (intro hgd; first | (rw [hgd]; rfl) | (refine ⟨?_, by repeat (first | exact trivial | refine ⟨hgd, ?_⟩)⟩; (repeat' apply And.intro) <;> first | trivial | omega | (intro h2; rw [hgd, h2]; rfl) | skip)) | skip)
          refine AK.exit rfl ?_
          (repeat (first | apply kS | apply kB | apply kL | apply kN | (refine kR follows_any [] (by rfl) ?_ ?_; first | exact kT1 | exact kT2 | exact kT3 | exact kT4)))
          exact AK.lp ⟨k + 1, by omega, Weak.intro ⟨⟨_, rfl, .refl _⟩, ⟨_, rfl, .refl _⟩, ⟨_, rfl, .refl _⟩, ⟨_, rfl, .refl _⟩, ⟨_, rfl, .refl _⟩, ⟨_, rfl, .refl _⟩, ⟨_, rfl, .of_eq (congrArg _ (by first | omega | (rw [wrap_in (by omega) (by omega)]; omega)))⟩, trivial⟩ ⟨⟨_, rfl, leL_refl _⟩, ⟨_, rfl, leL_refl _⟩, ⟨_, rfl, leL_refl _⟩, ⟨_, rfl, leL_of_eq (by rw [hts2])⟩, trivial⟩ rfl rfl, by omega⟩
        · have hx0 : ¬ x.kind = 0 := by simpa using hb
          have hts2 : foldO (overN n) a.m (b.m.take (k + 1)) = minsert y (overN n ((mfind y F).getD V.null) x) F := by rw [hts, stepO, if_neg hx0]
          have hFo : (vMap F).ord := vMap_ord hfr hfo
          have hFs := vMap_size F
          have hG := treeGet_o (vMap F) y hFo (by omega)
          rw [show (vMap F).m = F from rfl] at hG
          generalize (mfind y F).isSome = f at hG
          have huo := was_ord hfo y
          have hus : ((mfind y F).getD V.null).size ≤ a.size := by
            rw [← hF, foldO_other _ _ hao.2.2.1 (take_ne hbo.2.2.1 hg)]
            cases hm : mfind y a.m with
            | none => simp only [Option.getD_none, null_size]; omega
            | some u =>
              have := mem_sizeM (mfind_in hm)
              simp only [Option.getD_some] at this ⊢
              omega
          generalize hU : (mfind y F).getD V.null = u at *
          have hof := over_facts n u x (by omega) huo hxo
          have hI := ih u x (by omega) huo hxo (by omega) (by omega)
          have hP := treePut_o (vMap F) y (overN n u x) hFo (by omega)
          (repeat (first | apply kS | apply kB | apply kL | apply kN | (refine kR follows_any [] (by rfl) ?_ ?_; first | exact kT1 | exact kT2 | exact kT3 | exact kT4)))
          refine kR follows_any [.v (.tup [.agg [.int .i64 (u).kind, .bool (u).b, .int .i64 (u).n, .str (u).s, .lst .any 6 (rowsV (u).l), .lst .any 7 (rowsM (u).m)], .bool f])] (by rfl) ?_ ?_
          · ((repeat' apply And.intro) <;> first | trivial | omega | (simp only [List.length_nil, List.length_cons]; omega) | (intro hgd; first | (rw [hgd]; rfl) | (refine ⟨?_, by repeat (first | exact trivial | refine ⟨hgd, ?_⟩)⟩; (repeat' apply And.intro) <;> first | trivial | omega | (intro h2; rw [hgd, h2]; rfl) | skip)) | skip)
          (repeat (first | apply kS | apply kB | apply kL | apply kN | (refine kR follows_any [] (by rfl) ?_ ?_; first | exact kT1 | exact kT2 | exact kT3 | exact kT4)))
          refine kR follows_any [.v (.agg [.int .i64 ((overN n u x)).kind, .bool ((overN n u x)).b, .int .i64 ((overN n u x)).n, .str ((overN n u x)).s, .lst .any 6 (rowsV ((overN n u x)).l), .lst .any 7 (rowsM ((overN n u x)).m)]), .v (.agg [.int .i64 ((vMap (minsert y (overN n u x) F))).kind, .bool ((vMap (minsert y (overN n u x) F))).b, .int .i64 ((vMap (minsert y (overN n u x) F))).n, .str ((vMap (minsert y (overN n u x) F))).s, .lst .any 6 (rowsV ((vMap (minsert y (overN n u x) F))).l), .lst .any 7 (rowsM ((vMap (minsert y (overN n u x) F))).m)])] (by rfl) ?_ ?_
          · ((repeat' apply And.intro) <;> first | trivial | omega | (simp only [List.length_nil, List.length_cons]; omega) | (intro hgd; first | (rw [hgd]; rfl) | (refine ⟨?_, by repeat (first | exact trivial | refine ⟨hgd, ?_⟩)⟩; (repeat' apply And.intro) <;> first | trivial | omega | (intro h2; rw [hgd, h2]; rfl) | skip)) | skip)
          (repeat (first | apply kS | apply kB | apply kL | apply kN | (refine kR follows_any [] (by rfl) ?_ ?_; first | exact kT1 | exact kT2 | exact kT3 | exact kT4)))
          exact AK.lp ⟨k + 1, by omega, Weak.intro ⟨⟨_, rfl, .refl _⟩, ⟨_, rfl, .refl _⟩, ⟨_, rfl, .refl _⟩, ⟨_, rfl, .refl _⟩, ⟨_, rfl, .refl _⟩, ⟨_, rfl, .refl _⟩, ⟨_, rfl, .of_eq (congrArg _ (by first | omega | (rw [wrap_in (by omega) (by omega)]; omega)))⟩, trivial⟩ ⟨⟨_, rfl, leL_refl _⟩, ⟨_, rfl, leL_refl _⟩, ⟨_, rfl, leL_refl _⟩, ⟨_, rfl, leL_of_eq (by rw [hts2])⟩, trivial⟩ rfl rfl, by omega⟩
      · have hlt : k = b.m.length := by have : b.m.length ≤ k := by simpa [rowsM_len] using hb
                                        omega
        subst hlt
        rw [List.take_length] at hF
        refine AK.exit rfl ?_
        (repeat (first | apply kS | apply kB | apply kL | apply kN | (refine kR follows_any [] (by rfl) ?_ ?_; first | exact kT1 | exact kT2 | exact kT3 | exact kT4)))
        refine AK.ret ⟨_, rfl, ?_⟩
        rw [hF]
        rfl
    · have hst : overN (n + 1) a b = stripN (n + 1) b := by rw [overN, if_neg hk]
      have hS := strip_a (n + 1) b hn hb0 hbz
      rw [hst]
      refine AC.enter Tryz.func30 a_layer_Over_ok a_layer_Over_cb (by rfl) fun E hE => ?_
      show AK _ _ _ [.c b_layer_Over] _ _
      rw [b_layer_Over]
      (repeat (first | apply kS | apply kB | apply kL | apply kN | (refine kR follows_any [] (by rfl) ?_ ?_; first | exact kT1 | exact kT2 | exact kT3 | exact kT4)))
      refine kR follows_any [] (by rfl) ?_ ?_
      · ((repeat' apply And.intro) <;> first | trivial | omega | (simp only [List.length_nil, List.length_cons]; omega) | (intro hgd; first | (rw [hgd]; rfl) | (refine ⟨?_, by repeat (first | exact trivial | refine ⟨hgd, ?_⟩)⟩; (repeat' apply And.intro) <;> first | trivial | omega | (intro h2; rw [hgd, h2]; rfl) | skip)) | skip)
      refine AK.cond (by rfl) (fun hb => ?_) (fun hb => ?_)
      · (repeat (first | apply kS | apply kB | apply kL | apply kN | (refine kR follows_any [] (by rfl) ?_ ?_; first | exact kT1 | exact kT2 | exact kT3 | exact kT4)))
        refine kR follows_any [.v (.agg [.int .i64 ((stripN (n + 1) b)).kind, .bool ((stripN (n + 1) b)).b, .int .i64 ((stripN (n + 1) b)).n, .str ((stripN (n + 1) b)).s, .lst .any 6 (rowsV ((stripN (n + 1) b)).l), .lst .any 7 (rowsM ((stripN (n + 1) b)).m)])] (by rfl) ?_ ?_
        · ((repeat' apply And.intro) <;> first | trivial | omega | (simp only [List.length_nil, List.length_cons]; omega) | (intro hgd; first | (rw [hgd]; rfl) | (refine ⟨?_, by repeat (first | exact trivial | refine ⟨hgd, ?_⟩)⟩; (repeat' apply And.intro) <;> first | trivial | omega | (intro h2; rw [hgd, h2]; rfl) | skip)) | skip)
        (repeat (first | apply kS | apply kB | apply kL | apply kN | (refine kR follows_any [] (by rfl) ?_ ?_; first | exact kT1 | exact kT2 | exact kT3 | exact kT4)))
        refine AK.ret ⟨_, rfl, ?_⟩
        rfl
      · exfalso
        simp at hb
        exact hk hb
end Go.Proofs.YtfnpjakekeojoaaGreatDoor
