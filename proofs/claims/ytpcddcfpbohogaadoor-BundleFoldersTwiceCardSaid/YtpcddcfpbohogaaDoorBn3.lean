/-
  The document's example of layer 22, walked: no files are an empty map.
-/
import Derived.Test.YtpcddcfpbohogaaDoorBn2
namespace Go.Proofs.YtpcddcfpbohogaaDoor
set_option linter.unusedSimpArgs false
set_option linter.unusedVariables false
open Go.RowKit

/-- the empty map, as cells -/
def mapA : List AV := [.int .i64 5, .bool false, .int .i64 0, .str ⟨#[]⟩, .lst .any 6 [], .lst .any 7 []]
theorem mapNone_a : AC Tryd.prog 29 [.lst .any 7 []] (.agg mapA) := by
  refine AC.enter Tryd.func29 a_tree_Map_ok a_tree_Map_cb (by rfl) fun E hE => ?_
  show AK _ _ _ [.c b_tree_Map] _ _
  rw [b_tree_Map]
  (repeat (first | apply AK.seq | apply AK.block | apply AK.blk | apply AK.skip | (refine AK.reg follows_any (rs := []) (by rfl) ?_ ?_; first | exact trivial | exact ⟨trivial, trivial⟩ | exact ⟨trivial, trivial, trivial⟩ | exact ⟨trivial, trivial, trivial, trivial⟩ | fail) | fail))
  refine AK.loopI (fun k : Nat => (frOf [(2, .ptr 2 0), (3, .ptr 3 0), (10, .int .i64 (0 : Nat)), (11, .int .i64 k)], ⟨boxOf [(3, [.int .i64 5, .bool false, .int .i64 0, .str ⟨#[]⟩, .lst .nil 6 [], .lst .nil 7 []], false), (2, [.int .i64 0, .bool false, .int .i64 0, .str ⟨#[]⟩, .lst .nil 6 [], .lst .nil 7 []], false)], fun _ => 0⟩)) (fun k => k = 0) (fun k => 0) 0 rfl (Weak.intro ⟨⟨_, rfl, .refl _⟩, ⟨_, rfl, .refl _⟩, ⟨_, rfl, .refl _⟩, ⟨_, rfl, .refl _⟩, trivial⟩ ⟨⟨_, rfl, leL_refl _⟩, ⟨_, rfl, leL_refl _⟩, trivial⟩ rfl rfl) fun k hk => ?_
  subst hk
  (repeat (first | apply AK.seq | apply AK.block | apply AK.blk | apply AK.skip | (refine AK.reg follows_any (rs := []) (by rfl) ?_ ?_; first | exact trivial | exact ⟨trivial, trivial⟩ | exact ⟨trivial, trivial, trivial⟩ | exact ⟨trivial, trivial, trivial, trivial⟩ | fail) | fail))
  refine AK.cond (by rfl) (fun hb => ?_) (fun hb => ?_)
  · cases hb
  refine AK.exit rfl ?_
  (repeat (first | apply AK.seq | apply AK.block | apply AK.blk | apply AK.skip | (refine AK.reg follows_any (rs := []) (by rfl) ?_ ?_; first | exact trivial | exact ⟨trivial, trivial⟩ | exact ⟨trivial, trivial, trivial⟩ | exact ⟨trivial, trivial, trivial, trivial⟩ | fail) | fail))
  refine AK.ret ⟨_, rfl, ?_⟩
  rfl
theorem printNone_a : AC Tryd.prog 54 [.agg mapA] (.str ⟨#[123, 125]⟩) := by
  refine AC.enter Tryd.func54 a_scalar_Print_ok a_scalar_Print_cb (by rfl) fun E hE => ?_
  show AK _ _ _ [.c b_scalar_Print] _ _
  rw [b_scalar_Print]
  (repeat (first | apply AK.seq | apply AK.block | apply AK.blk | apply AK.skip | (refine AK.reg follows_any (rs := []) (by rfl) ?_ ?_; first | exact trivial | exact ⟨trivial, trivial⟩ | exact ⟨trivial, trivial, trivial⟩ | exact ⟨trivial, trivial, trivial, trivial⟩ | fail) | fail))
  refine AK.cond (by rfl) (fun hb => ?_) (fun hb => ?_)
  · cases hb
  (repeat (first | apply AK.seq | apply AK.block | apply AK.blk | apply AK.skip | (refine AK.reg follows_any (rs := []) (by rfl) ?_ ?_; first | exact trivial | exact ⟨trivial, trivial⟩ | exact ⟨trivial, trivial, trivial⟩ | exact ⟨trivial, trivial, trivial, trivial⟩ | fail) | fail))
  refine AK.cond (by rfl) (fun hb => ?_) (fun hb => ?_)
  · cases hb
  (repeat (first | apply AK.seq | apply AK.block | apply AK.blk | apply AK.skip | (refine AK.reg follows_any (rs := []) (by rfl) ?_ ?_; first | exact trivial | exact ⟨trivial, trivial⟩ | exact ⟨trivial, trivial, trivial⟩ | exact ⟨trivial, trivial, trivial, trivial⟩ | fail) | fail))
  refine AK.cond (by rfl) (fun hb => ?_) (fun hb => ?_)
  · cases hb
  (repeat (first | apply AK.seq | apply AK.block | apply AK.blk | apply AK.skip | (refine AK.reg follows_any (rs := []) (by rfl) ?_ ?_; first | exact trivial | exact ⟨trivial, trivial⟩ | exact ⟨trivial, trivial, trivial⟩ | exact ⟨trivial, trivial, trivial, trivial⟩ | fail) | fail))
  refine AK.cond (by rfl) (fun hb => ?_) (fun hb => ?_)
  · cases hb
  (repeat (first | apply AK.seq | apply AK.block | apply AK.blk | apply AK.skip | (refine AK.reg follows_any (rs := []) (by rfl) ?_ ?_; first | exact trivial | exact ⟨trivial, trivial⟩ | exact ⟨trivial, trivial, trivial⟩ | exact ⟨trivial, trivial, trivial, trivial⟩ | fail) | fail))
  refine AK.cond (by rfl) (fun hb => ?_) (fun hb => ?_)
  · (repeat (first | apply AK.seq | apply AK.block | apply AK.blk | apply AK.skip | (refine AK.reg follows_any (rs := []) (by rfl) ?_ ?_; first | exact trivial | exact ⟨trivial, trivial⟩ | exact ⟨trivial, trivial, trivial⟩ | exact ⟨trivial, trivial, trivial, trivial⟩ | fail) | fail))
    refine AK.ret ⟨_, rfl, ?_⟩
    rfl
  · cases hb
theorem emitNone_a : AC Tryd.prog 35 [.agg mapA] (.str ⟨#[123, 125, 10]⟩) := by
  have h := printNone_a
  refine AC.enter Tryd.func35 a_yaml_Emit_ok a_yaml_Emit_cb (by rfl) fun E hE => ?_
  show AK _ _ _ [.c b_yaml_Emit] _ _
  rw [b_yaml_Emit]
  (repeat (first | apply AK.seq | apply AK.block | apply AK.blk | apply AK.skip | (refine AK.reg follows_any (rs := []) (by rfl) ?_ ?_; first | exact trivial | exact ⟨trivial, trivial⟩ | exact ⟨trivial, trivial, trivial⟩ | exact ⟨trivial, trivial, trivial, trivial⟩ | fail) | fail))
  refine AK.cond (by rfl) (fun hb => ?_) (fun hb => ?_)
  · (repeat (first | apply AK.seq | apply AK.block | apply AK.blk | apply AK.skip | (refine AK.reg follows_any (rs := []) (by rfl) ?_ ?_; first | exact trivial | exact ⟨trivial, trivial⟩ | exact ⟨trivial, trivial, trivial⟩ | exact ⟨trivial, trivial, trivial, trivial⟩ | fail) | fail))
    refine AK.reg follows_any (rs := [.v (.str ⟨#[123, 125]⟩)]) (by rfl) ?_ ?_
    · ((repeat' apply And.intro) <;> first | trivial | omega | (simp only [List.length_nil, List.length_cons]; omega) | (intro hgd; first | (rw [hgd]; rfl) | (refine ⟨?_, by repeat (first | exact trivial | refine ⟨hgd, ?_⟩)⟩; (repeat' apply And.intro) <;> first | trivial | omega | (intro h2; rw [hgd, h2]; rfl) | skip)) | skip)
    (repeat (first | apply AK.seq | apply AK.block | apply AK.blk | apply AK.skip | (refine AK.reg follows_any (rs := []) (by rfl) ?_ ?_; first | exact trivial | exact ⟨trivial, trivial⟩ | exact ⟨trivial, trivial, trivial⟩ | exact ⟨trivial, trivial, trivial, trivial⟩ | fail) | fail))
    refine AK.ret ⟨_, rfl, ?_⟩
    rfl
  · cases hb
theorem packNone_a : AC Tryd.prog 15 [.lst .any 2 []] (.tup [.str ⟨#[123, 125, 10]⟩, .int .i64 0]) := by
  have h1 := mapNone_a
  have h2 := emitNone_a
  refine AC.enter Tryd.func15 a_bundle_Pack_ok a_bundle_Pack_cb (by rfl) fun E hE => ?_
  show AK _ _ _ [.c b_bundle_Pack] _ _
  rw [b_bundle_Pack]
  (repeat (first | apply AK.seq | apply AK.block | apply AK.blk | apply AK.skip | (refine AK.reg follows_any (rs := []) (by rfl) ?_ ?_; first | exact trivial | exact ⟨trivial, trivial⟩ | exact ⟨trivial, trivial, trivial⟩ | exact ⟨trivial, trivial, trivial, trivial⟩ | fail) | fail))
  refine AK.cond (by rfl) (fun hb => ?_) (fun hb => ?_)
  · cases hb
  (repeat (first | apply AK.seq | apply AK.block | apply AK.blk | apply AK.skip | (refine AK.reg follows_any (rs := []) (by rfl) ?_ ?_; first | exact trivial | exact ⟨trivial, trivial⟩ | exact ⟨trivial, trivial, trivial⟩ | exact ⟨trivial, trivial, trivial, trivial⟩ | fail) | fail))
  refine AK.reg follows_any (rs := [.v (.agg mapA)]) (by rfl) ?_ ?_
  · ((repeat' apply And.intro) <;> first | trivial | omega | (simp only [List.length_nil, List.length_cons]; omega) | (intro hgd; first | (rw [hgd]; rfl) | (refine ⟨?_, by repeat (first | exact trivial | refine ⟨hgd, ?_⟩)⟩; (repeat' apply And.intro) <;> first | trivial | omega | (intro h2; rw [hgd, h2]; rfl) | skip)) | skip)
  (repeat (first | apply AK.seq | apply AK.block | apply AK.blk | apply AK.skip | (refine AK.reg follows_any (rs := []) (by rfl) ?_ ?_; first | exact trivial | exact ⟨trivial, trivial⟩ | exact ⟨trivial, trivial, trivial⟩ | exact ⟨trivial, trivial, trivial, trivial⟩ | fail) | fail))
  refine AK.loopI (fun k : Nat => (frOf [(4, .ptr 4 0), (15, .int .i64 (0 : Nat)), (16, .int .i64 k)], ⟨boxOf [(4, mapA, false)], fun _ => 0⟩)) (fun k => k = 0) (fun k => 0) 0 rfl (Weak.intro ⟨⟨_, rfl, .refl _⟩, ⟨_, rfl, .refl _⟩, ⟨_, rfl, .refl _⟩, trivial⟩ ⟨⟨_, rfl, leL_refl _⟩, trivial⟩ rfl rfl) fun k hk => ?_
  subst hk
  (repeat (first | apply AK.seq | apply AK.block | apply AK.blk | apply AK.skip | (refine AK.reg follows_any (rs := []) (by rfl) ?_ ?_; first | exact trivial | exact ⟨trivial, trivial⟩ | exact ⟨trivial, trivial, trivial⟩ | exact ⟨trivial, trivial, trivial, trivial⟩ | fail) | fail))
  refine AK.cond (by rfl) (fun hb => ?_) (fun hb => ?_)
  · cases hb
  refine AK.exit rfl ?_
  (repeat (first | apply AK.seq | apply AK.block | apply AK.blk | apply AK.skip | (refine AK.reg follows_any (rs := []) (by rfl) ?_ ?_; first | exact trivial | exact ⟨trivial, trivial⟩ | exact ⟨trivial, trivial, trivial⟩ | exact ⟨trivial, trivial, trivial, trivial⟩ | fail) | fail))
  refine AK.reg follows_any (rs := [.v (.str ⟨#[123, 125, 10]⟩)]) (by rfl) ?_ ?_
  · ((repeat' apply And.intro) <;> first | trivial | omega | (simp only [List.length_nil, List.length_cons]; omega) | (intro hgd; first | (rw [hgd]; rfl) | (refine ⟨?_, by repeat (first | exact trivial | refine ⟨hgd, ?_⟩)⟩; (repeat' apply And.intro) <;> first | trivial | omega | (intro h2; rw [hgd, h2]; rfl) | skip)) | skip)
  (repeat (first | apply AK.seq | apply AK.block | apply AK.blk | apply AK.skip | (refine AK.reg follows_any (rs := []) (by rfl) ?_ ?_; first | exact trivial | exact ⟨trivial, trivial⟩ | exact ⟨trivial, trivial, trivial⟩ | exact ⟨trivial, trivial, trivial, trivial⟩ | fail) | fail))
  refine AK.cond (by rfl) (fun hb => ?_) (fun hb => ?_)
  · cases hb
  (repeat (first | apply AK.seq | apply AK.block | apply AK.blk | apply AK.skip | (refine AK.reg follows_any (rs := []) (by rfl) ?_ ?_; first | exact trivial | exact ⟨trivial, trivial⟩ | exact ⟨trivial, trivial, trivial⟩ | exact ⟨trivial, trivial, trivial, trivial⟩ | fail) | fail))
  refine AK.ret ⟨_, rfl, ?_⟩
  rfl
theorem awake22_a : AC Tryd.prog 14 [] (.bool true) := by
  have h1 := packNone_a
  have h2 := sum_a ⟨#[]⟩ (by decide)
  refine AC.enter Tryd.func14 a_law22_awake_ok a_law22_awake_cb (by rfl) fun E hE => ?_
  show AK _ _ _ [.c b_law22_awake] _ _
  rw [b_law22_awake]
  (repeat (first | apply AK.seq | apply AK.block | apply AK.blk | apply AK.skip | (refine AK.reg follows_any (rs := []) (by rfl) ?_ ?_; first | exact trivial | exact ⟨trivial, trivial⟩ | exact ⟨trivial, trivial, trivial⟩ | exact ⟨trivial, trivial, trivial, trivial⟩ | fail) | fail))
  refine AK.reg follows_any (rs := [.v (.tup [.str ⟨#[123, 125, 10]⟩, .int .i64 0])]) (by rfl) ?_ ?_
  · ((repeat' apply And.intro) <;> first | trivial | omega | (simp only [List.length_nil, List.length_cons]; omega) | (intro hgd; first | (rw [hgd]; rfl) | (refine ⟨?_, by repeat (first | exact trivial | refine ⟨hgd, ?_⟩)⟩; (repeat' apply And.intro) <;> first | trivial | omega | (intro h2; rw [hgd, h2]; rfl) | skip)) | skip)
  (repeat (first | apply AK.seq | apply AK.block | apply AK.blk | apply AK.skip | (refine AK.reg follows_any (rs := []) (by rfl) ?_ ?_; first | exact trivial | exact ⟨trivial, trivial⟩ | exact ⟨trivial, trivial, trivial⟩ | exact ⟨trivial, trivial, trivial, trivial⟩ | fail) | fail))
  refine AK.reg follows_any (rs := [.v (.int .u64 14695981039346656037)]) (by rfl) ?_ ?_
  · ((repeat' apply And.intro) <;> first | trivial | omega | (simp only [List.length_nil, List.length_cons]; omega) | (intro hgd; first | (rw [hgd]; rfl) | (refine ⟨?_, by repeat (first | exact trivial | refine ⟨hgd, ?_⟩)⟩; (repeat' apply And.intro) <;> first | trivial | omega | (intro h2; rw [hgd, h2]; rfl) | skip)) | skip)
  (repeat (first | apply AK.seq | apply AK.block | apply AK.blk | apply AK.skip | (refine AK.reg follows_any (rs := []) (by rfl) ?_ ?_; first | exact trivial | exact ⟨trivial, trivial⟩ | exact ⟨trivial, trivial, trivial⟩ | exact ⟨trivial, trivial, trivial, trivial⟩ | fail) | fail))
  refine AK.ret ⟨_, rfl, ?_⟩
  exact congrArg AV.bool (by decide +kernel)
end Go.Proofs.YtpcddcfpbohogaaDoor
