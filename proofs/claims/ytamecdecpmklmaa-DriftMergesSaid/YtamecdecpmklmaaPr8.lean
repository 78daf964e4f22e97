/-
  The law's function DriftCompares, walked: of any values it answers true.
-/
import Derived.Test.YtamecdecpmklmaaPr7
namespace Go.Proofs.Ytamecdecpmklmaa
set_option linter.unusedSimpArgs false
set_option linter.unusedVariables false
open Go.RowKit

/-- the document's example holds (proved in its own text) -/
def AwakeOk : Prop := AC Try.prog 7 [] (.bool true)
theorem changes_len (live want : V) : (changes live want).length ≤ want.size + live.size := by
  have h1 := chgA_len live want.leaves
  have h2 := chgB_len want.leaves live.leaves
  have h3 := want.leaves_len
  have h4 := live.leaves_len
  rw [changes, List.length_append]
  omega
theorem changes_path {live want : V} {q : Int × Path} (h : q ∈ changes live want) : q.2.length < want.depth + live.depth := by
  rw [changes, List.mem_append] at h
  rcases h with h | h
  · obtain ⟨x, hx, hq⟩ := List.mem_filterMap.1 h
    have h1 := V.leaf_len hx
    rw [chg1] at hq
    split at hq
    · cases hq; simp only; omega
    · split at hq
      · cases hq
      · cases hq; simp only; omega
  · obtain ⟨x, hx, hq⟩ := List.mem_filterMap.1 h
    have h1 := V.leaf_len hx
    rw [chg3] at hq
    split at hq
    · cases hq
    · cases hq; simp only; omega
theorem right2_a (a b : V) (ha : a.sb) (hb : b.sb) :
    AC Try.prog 6 [.lst .any 6 [[.int .i64 (a).kind, .bool (a).b, .int .i64 (a).n, .str (a).s, .lst .any 6 (rowsV (a).l), .lst .any 7 (rowsM (a).m)], [.int .i64 (b).kind, .bool (b).b, .int .i64 (b).n, .str (b).s, .lst .any 6 (rowsV (b).l), .lst .any 7 (rowsM (b).m)]]] (.bool (rightB [a, b])) := by
  have := right_a [a, b] (by simp) (by intro x hx; simp at hx; rcases hx with rfl | rfl <;> assumption)
  simpa only [rowsV, cellsV_eq] using this

theorem driftCompares_a (hc : CloneOk) (hw : AwakeOk) (ka kb kc : ByteArray) (live want : V) (s1 : live.sb) (s2 : want.sb) :
    AC Try.prog 3 [.agg [.str ka, .str kb, .str kc], .agg [.int .i64 (live).kind, .bool (live).b, .int .i64 (live).n, .str (live).s, .lst .any 6 (rowsV (live).l), .lst .any 7 (rowsM (live).m)], .agg [.int .i64 (want).kind, .bool (want).b, .int .i64 (want).n, .str (want).s, .lst .any 6 (rowsV (want).l), .lst .any 7 (rowsM (want).m)]] (.bool true) := by
  refine AC.enter Try.func3 a_law21_DriftCompares_ok a_law21_DriftCompares_cb (by rfl) fun E hE => ?_
  show AK _ _ _ [.c b_law21_DriftCompares] _ _
  rw [b_law21_DriftCompares]
  (repeat (first | apply AK.seq | apply AK.block | apply AK.blk | apply AK.skip | (refine AK.reg follows_any (rs := []) (by rfl) ?_ ?_; first | exact trivial | exact ⟨trivial, trivial⟩ | exact ⟨trivial, trivial, trivial⟩ | exact ⟨trivial, trivial, trivial, trivial⟩ | fail) | fail))
  refine AK.reg follows_any (rs := [.v (.bool (rightB [live, want]))]) (by rfl) ?_ ?_
  · ((repeat' apply And.intro) <;> first | trivial | omega | (simp only [List.length_nil, List.length_cons]; omega) | (intro hgd; first | (rw [hgd]; rfl) | (refine ⟨?_, by repeat (first | exact trivial | refine ⟨hgd, ?_⟩)⟩; (repeat' apply And.intro) <;> first | trivial | omega | (intro h2; rw [hgd, h2]; rfl) | skip)) | skip)
    · exact right2_a live want s1 s2
  refine AK.cond (by rfl) (fun hb => ?_) (fun hb => ?_)
  · (repeat (first | apply AK.seq | apply AK.block | apply AK.blk | apply AK.skip | (refine AK.reg follows_any (rs := []) (by rfl) ?_ ?_; first | exact trivial | exact ⟨trivial, trivial⟩ | exact ⟨trivial, trivial, trivial⟩ | exact ⟨trivial, trivial, trivial, trivial⟩ | fail) | fail))
    refine AK.reg follows_any (rs := [.v (.bool true)]) (by rfl) ?_ ?_
    · ((repeat' apply And.intro) <;> first | trivial | omega | (simp only [List.length_nil, List.length_cons]; omega) | (intro hgd; first | (rw [hgd]; rfl) | (refine ⟨?_, by repeat (first | exact trivial | refine ⟨hgd, ?_⟩)⟩; (repeat' apply And.intro) <;> first | trivial | omega | (intro h2; rw [hgd, h2]; rfl) | skip)) | skip)
    (repeat (first | apply AK.seq | apply AK.block | apply AK.blk | apply AK.skip | (refine AK.reg follows_any (rs := []) (by rfl) ?_ ?_; first | exact trivial | exact ⟨trivial, trivial⟩ | exact ⟨trivial, trivial, trivial⟩ | exact ⟨trivial, trivial, trivial, trivial⟩ | fail) | fail))
    refine AK.ret ⟨_, rfl, ?_⟩
    rfl
  have hr := rightB_fine (show rightB [live, want] = true by simpa using hb)
  obtain ⟨_, g1, z1, d1⟩ := hr live (by simp)
  obtain ⟨_, g2, z2, d2⟩ := hr want (by simp)
  have hl := changes_len live want
  have hcs := changes_self g1
  (repeat (first | apply AK.seq | apply AK.block | apply AK.blk | apply AK.skip | (refine AK.reg follows_any (rs := []) (by rfl) ?_ ?_; first | exact trivial | exact ⟨trivial, trivial⟩ | exact ⟨trivial, trivial, trivial⟩ | exact ⟨trivial, trivial, trivial, trivial⟩ | fail) | fail))
  refine AK.reg follows_any (rs := [.v (.bool true), .v (.lst .any 5 (rowsDc ka kb kc (changes live want))), .v (.lst .any 2 (rowsCh (changes live want))), .v (.bool true), .v (.lst .any 5 (rowsDc ka kb kc (changes live live)))]) (by rfl) ?_ ?_
  · ((repeat' apply And.intro) <;> first | trivial | omega | (simp only [List.length_nil, List.length_cons]; omega) | (intro hgd; first | (rw [hgd]; rfl) | (refine ⟨?_, by repeat (first | exact trivial | refine ⟨hgd, ?_⟩)⟩; (repeat' apply And.intro) <;> first | trivial | omega | (intro h2; rw [hgd, h2]; rfl) | skip)) | skip)
    · exact driftCompare_a hc ka kb kc live want g1 g2 (by omega) (by omega)
    · exact refCompare_a live want (by omega) (by omega)
    · exact is_a ka kb kc _ (by omega) fun q hq => by have := changes_path hq; omega
    · exact driftCompare_a hc ka kb kc live live g1 g1 (by omega) (by omega)
  (repeat (first | apply AK.seq | apply AK.block | apply AK.blk | apply AK.skip | (refine AK.reg follows_any (rs := []) (by rfl) ?_ ?_; first | exact trivial | exact ⟨trivial, trivial⟩ | exact ⟨trivial, trivial, trivial⟩ | exact ⟨trivial, trivial, trivial, trivial⟩ | fail) | fail))
  refine AK.ret ⟨_, rfl, ?_⟩
  rw [hcs]
  rfl
end Go.Proofs.Ytamecdecpmklmaa
