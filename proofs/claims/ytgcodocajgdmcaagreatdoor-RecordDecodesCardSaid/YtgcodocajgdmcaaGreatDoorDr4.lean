/-
  The document's functions Same, Get, Leaves, Get along a path, Begins, walked as instructions.
-/
import Derived.Test.YtgcodocajgdmcaaGreatDoorDr3
import Derived.Test.YtgcodocajgdmcaaGreatDoorDrS
import Derived.Test.YtgcodocajgdmcaaGreatDoorGav
namespace Go.Proofs.YtgcodocajgdmcaaGreatDoor
set_option linter.unusedSimpArgs false
set_option linter.unusedVariables false
open Go.RowKit

theorem refGet_a (v : V) (key : ByteArray) (hsz : v.size ≤ 2000000000000) : AC Tryz.prog 30 [.agg [.int .i64 (v).kind, .bool (v).b, .int .i64 (v).n, .str (v).s, .lst .any 6 (rowsV (v).l), .lst .any 7 (rowsM (v).m)], .str key] (getAV (mfind key v.m)) := by
  have hve := v.size_eq
  have hlm := len_le_sizeM v.m
  refine AC.enter Tryz.func30 a_ref01_Get_ok a_ref01_Get_cb (by rfl) fun E hE => ?_
  show AK _ _ _ [.c b_ref01_Get] _ _
  rw [b_ref01_Get]
  (repeat (first | apply AK.seq | apply AK.block | apply AK.blk | apply AK.skip | (refine AK.reg follows_any (rs := []) (by rfl) ?_ ?_; first | exact trivial | exact ⟨trivial, trivial⟩ | exact ⟨trivial, trivial, trivial⟩ | exact ⟨trivial, trivial, trivial, trivial⟩ | fail) | fail))
  refine AK.loopI (fun k : Nat => (frOf [(1, .str key), (2, .ptr 2 0), (4, .ptr 4 0), (6, .int .i64 k)], ⟨boxOf [(2, [.int .i64 (v).kind, .bool (v).b, .int .i64 (v).n, .str (v).s, .lst .any 6 (rowsV (v).l), .lst .any 7 (rowsM (v).m)], false), (4, [.int .i64 0, .bool false, .int .i64 0, .str ⟨#[]⟩, .lst .nil 6 [], .lst .nil 7 []], false)], fun _ => 0⟩)) (fun k => k ≤ v.m.length ∧ ∀ j p, j < k → v.m[j]? = some p → p.1 ≠ key) (fun k => v.m.length - k) 0 ⟨by omega, fun j p h => by omega⟩ (Weak.intro ⟨⟨_, rfl, .refl _⟩, ⟨_, rfl, .refl _⟩, ⟨_, rfl, .refl _⟩, ⟨_, rfl, .refl _⟩, trivial⟩ ⟨⟨_, rfl, leL_refl _⟩, ⟨_, rfl, leL_refl _⟩, trivial⟩ rfl rfl) fun k ⟨hk, hr⟩ => ?_
  (repeat (first | apply AK.seq | apply AK.block | apply AK.blk | apply AK.skip | (refine AK.reg follows_any (rs := []) (by rfl) ?_ ?_; first | exact trivial | exact ⟨trivial, trivial⟩ | exact ⟨trivial, trivial, trivial⟩ | exact ⟨trivial, trivial, trivial, trivial⟩ | fail) | fail))
  refine AK.cond (by rfl) (fun hb => ?_) (fun hb => ?_)
  · have hlt : k < v.m.length := by simpa [rowsM_len] using hb
    obtain ⟨⟨y, x⟩, hg⟩ : ∃ x, v.m[k]? = some x := ⟨_, List.getElem?_eq_getElem hlt⟩
    (repeat (first | apply AK.seq | apply AK.block | apply AK.blk | apply AK.skip | (refine AK.reg follows_any (rs := []) (by rfl) ?_ ?_; first | exact trivial | exact ⟨trivial, trivial⟩ | exact ⟨trivial, trivial, trivial⟩ | exact ⟨trivial, trivial, trivial, trivial⟩ | fail) | fail))
    refine AK.reg follows_any (rs := [.c (.str y :: [.int .i64 (x).kind, .bool (x).b, .int .i64 (x).n, .str (x).s, .lst .any 6 (rowsV (x).l), .lst .any 7 (rowsM (x).m)])]) (by rfl) ?_ ?_
    · ((repeat' apply And.intro) <;> first | trivial | omega | (simp only [List.length_nil, List.length_cons]; omega) | (intro hgd; first | (rw [hgd]; rfl) | (refine ⟨?_, by repeat (first | exact trivial | refine ⟨hgd, ?_⟩)⟩; (repeat' apply And.intro) <;> first | trivial | omega | (intro h2; rw [hgd, h2]; rfl) | skip)) | skip)
      · exact rowsM_at hg
    refine AK.cond (by rfl) (fun hb => ?_) (fun hb => ?_)
    · have he : y = key := by simpa using hb
      subst he
      (repeat (first | apply AK.seq | apply AK.block | apply AK.blk | apply AK.skip | (refine AK.reg follows_any (rs := []) (by rfl) ?_ ?_; first | exact trivial | exact ⟨trivial, trivial⟩ | exact ⟨trivial, trivial, trivial⟩ | exact ⟨trivial, trivial, trivial, trivial⟩ | fail) | fail))
      refine AK.reg follows_any (rs := [.c (.str y :: [.int .i64 (x).kind, .bool (x).b, .int .i64 (x).n, .str (x).s, .lst .any 6 (rowsV (x).l), .lst .any 7 (rowsM (x).m)])]) (by rfl) ?_ ?_
      · ((repeat' apply And.intro) <;> first | trivial | omega | (simp only [List.length_nil, List.length_cons]; omega) | (intro hgd; first | (rw [hgd]; rfl) | (refine ⟨?_, by repeat (first | exact trivial | refine ⟨hgd, ?_⟩)⟩; (repeat' apply And.intro) <;> first | trivial | omega | (intro h2; rw [hgd, h2]; rfl) | skip)) | skip)
        · exact rowsM_at hg
      (repeat (first | apply AK.seq | apply AK.block | apply AK.blk | apply AK.skip | (refine AK.reg follows_any (rs := []) (by rfl) ?_ ?_; first | exact trivial | exact ⟨trivial, trivial⟩ | exact ⟨trivial, trivial, trivial⟩ | exact ⟨trivial, trivial, trivial, trivial⟩ | fail) | fail))
      refine AK.ret ⟨_, rfl, ?_⟩
      rw [mfind_at hr hg]
      rfl
    · have he : y ≠ key := by simpa using hb
      (repeat (first | apply AK.seq | apply AK.block | apply AK.blk | apply AK.skip | (refine AK.reg follows_any (rs := []) (by rfl) ?_ ?_; first | exact trivial | exact ⟨trivial, trivial⟩ | exact ⟨trivial, trivial, trivial⟩ | exact ⟨trivial, trivial, trivial, trivial⟩ | fail) | fail))
      exact AK.lp ⟨k + 1, ⟨by omega, ne_more hr hg he⟩, Weak.intro ⟨⟨_, rfl, .refl _⟩, ⟨_, rfl, .refl _⟩, ⟨_, rfl, .refl _⟩, ⟨_, rfl, .of_eq (congrArg _ (by first | omega | (rw [wrap_in (by omega) (by omega)]; omega)))⟩, trivial⟩ ⟨⟨_, rfl, leL_refl _⟩, ⟨_, rfl, leL_refl _⟩, trivial⟩ rfl rfl, by omega⟩
  · have hlt : k = v.m.length := by have : v.m.length ≤ k := by simpa [rowsM_len] using hb
                                    omega
    subst hlt
    refine AK.exit rfl ?_
    (repeat (first | apply AK.seq | apply AK.block | apply AK.blk | apply AK.skip | (refine AK.reg follows_any (rs := []) (by rfl) ?_ ?_; first | exact trivial | exact ⟨trivial, trivial⟩ | exact ⟨trivial, trivial, trivial⟩ | exact ⟨trivial, trivial, trivial, trivial⟩ | fail) | fail))
    refine AK.ret ⟨_, rfl, ?_⟩
    rw [mfind_none hr]
    rfl
end Go.Proofs.YtgcodocajgdmcaaGreatDoor
