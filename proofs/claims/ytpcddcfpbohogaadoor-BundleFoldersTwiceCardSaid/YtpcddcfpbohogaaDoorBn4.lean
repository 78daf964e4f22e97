/-
  The laws' functions BundleFolders, BundleFoldersTwice, walked.
-/
import Derived.Test.YtpcddcfpbohogaaDoorBn3
namespace Go.Proofs.YtpcddcfpbohogaaDoor
set_option linter.unusedSimpArgs false
set_option linter.unusedVariables false
open Go.RowKit

theorem ext_size (s : ByteArray) {a b : Nat} (hb : b ≤ s.size) : (s.extract a b).size = b - a := by
  rw [Lib.extract_eq]
  show ((s.data.toList.drop a).take (b - a)).toArray.size = _
  have e : s.data.toList.length = s.size := by simp
  rw [List.size_toArray, List.length_take, List.length_drop, e]
  omega
theorem cut_ne {s q : ByteArray} (h : hasB s q = true) : (!decide (cutS s q = ⟨#[]⟩)) = decide (q.size < s.size) := by
  have hz : (cutS s q).size = s.size - q.size := by rw [cutS, if_pos h, ext_size s (Nat.le_refl _)]
  rw [Bool.eq_iff_iff, Bool.not_eq_true', decide_eq_false_iff_not, decide_eq_true_eq]
  constructor
  · intro hne
    rcases Nat.lt_or_ge q.size s.size with h1 | h1
    · exact h1
    · exfalso
      refine hne ?_
      have h0 : (cutS s q).size = 0 := by omega
      cases hc : cutS s q with
      | mk d =>
        rw [hc] at h0
        exact congrArg ByteArray.mk (Array.eq_empty_of_size_eq_zero h0)
  · intro h1 e
    rw [e] at hz
    have : (ByteArray.mk #[]).size = 0 := rfl
    omega
theorem slash_size (name : ByteArray) : (name ++ ByteArray.mk #[47]).size = name.size + 1 := by rw [ByteArray.size_append]; rfl
theorem bundleFolders_a (l : List Fl) (name s : ByteArray) (hl : l.length ≤ 4398046511103) (hn : name.size ≤ 140737488355328) (hs : s.size ≤ 140737488355328) :
    AC Tryd.prog 5 [.lst .any 2 (rowsF l), .str name, .str s] (.bool true) := by
  have haw := awake22_a
  have hL := light_a l (by omega)
  refine AC.enter Tryd.func5 a_law22_BundleFolders_ok a_law22_BundleFolders_cb (by rfl) fun E hE => ?_
  show AK _ _ _ [.c b_law22_BundleFolders] _ _
  rw [b_law22_BundleFolders]
  (repeat (first | apply AK.seq | apply AK.block | apply AK.blk | apply AK.skip | (refine AK.reg follows_any (rs := []) (by rfl) ?_ ?_; first | exact trivial | exact ⟨trivial, trivial⟩ | exact ⟨trivial, trivial, trivial⟩ | exact ⟨trivial, trivial, trivial, trivial⟩ | fail) | fail))
  refine AK.reg follows_any (rs := [.v (.bool (decide (lightN l l.length ≤ 3000)))]) (by rfl) ?_ ?_
  · ((repeat' apply And.intro) <;> first | trivial | omega | (simp only [List.length_nil, List.length_cons]; omega) | (intro hgd; first | (rw [hgd]; rfl) | (refine ⟨?_, by repeat (first | exact trivial | refine ⟨hgd, ?_⟩)⟩; (repeat' apply And.intro) <;> first | trivial | omega | (intro h2; rw [hgd, h2]; rfl) | skip)) | skip)
  refine AK.cond (by rfl) (fun hb => ?_) (fun hb => ?_)
  · (repeat (first | apply AK.seq | apply AK.block | apply AK.blk | apply AK.skip | (refine AK.reg follows_any (rs := []) (by rfl) ?_ ?_; first | exact trivial | exact ⟨trivial, trivial⟩ | exact ⟨trivial, trivial, trivial⟩ | exact ⟨trivial, trivial, trivial, trivial⟩ | fail) | fail))
    refine AK.reg follows_any (rs := [.v (.bool true)]) (by rfl) ?_ ?_
    · ((repeat' apply And.intro) <;> first | trivial | omega | (simp only [List.length_nil, List.length_cons]; omega) | (intro hgd; first | (rw [hgd]; rfl) | (refine ⟨?_, by repeat (first | exact trivial | refine ⟨hgd, ?_⟩)⟩; (repeat' apply And.intro) <;> first | trivial | omega | (intro h2; rw [hgd, h2]; rfl) | skip)) | skip)
    (repeat (first | apply AK.seq | apply AK.block | apply AK.blk | apply AK.skip | (refine AK.reg follows_any (rs := []) (by rfl) ?_ ?_; first | exact trivial | exact ⟨trivial, trivial⟩ | exact ⟨trivial, trivial, trivial⟩ | exact ⟨trivial, trivial, trivial, trivial⟩ | fail) | fail))
    refine AK.ret ⟨_, rfl, ?_⟩
    rfl
  simp only [Bool.or_eq_false_iff, decide_eq_false_iff_not] at hb
  obtain ⟨⟨_, hnm⟩, _⟩ := hb
  (repeat (first | apply AK.seq | apply AK.block | apply AK.blk | apply AK.skip | (refine AK.reg follows_any (rs := []) (by rfl) ?_ ?_; first | exact trivial | exact ⟨trivial, trivial⟩ | exact ⟨trivial, trivial, trivial⟩ | exact ⟨trivial, trivial, trivial, trivial⟩ | fail) | fail))
  refine AK.loopI (fun i : Nat × (Nat → Nat) => (frOf [(0, .lst .any 2 (rowsF l)), (1, .str name), (2, .str s), (7, .lst (.own 55 (i.2 55)) 2 (rowsF (folderL (l.take i.1) name))), (24, .lst .any 2 (rowsF l)), (25, .int .i64 (rowsF l).length), (26, .int .i64 i.1)], ⟨boxOf [], i.2⟩))
    (fun i => i.1 ≤ l.length) (fun i => l.length - i.1) (0, fun _ => 0) (Nat.zero_le _) (Weak.intro ⟨⟨_, rfl, .refl _⟩, ⟨_, rfl, .refl _⟩, ⟨_, rfl, .refl _⟩, ⟨_, rfl, .one (.own _ _ _ _)⟩, ⟨_, rfl, .refl _⟩, ⟨_, rfl, .refl _⟩, ⟨_, rfl, .refl _⟩, trivial⟩ trivial rfl rfl) fun ⟨k, r⟩ hk => ?_
  dsimp only at hk
  (repeat (first | apply AK.seq | apply AK.block | apply AK.blk | apply AK.skip | (refine AK.reg follows_any (rs := []) (by rfl) ?_ ?_; first | exact trivial | exact ⟨trivial, trivial⟩ | exact ⟨trivial, trivial, trivial⟩ | exact ⟨trivial, trivial, trivial, trivial⟩ | fail) | fail))
  refine AK.cond (by rfl) (fun hb => ?_) (fun hb => ?_)
  · have hlt : k < l.length := by simpa [rowsF_len] using hb
    obtain ⟨p, hg⟩ : ∃ x, l[k]? = some x := ⟨_, List.getElem?_eq_getElem hlt⟩
    have hst := folder_take hg name
    have hfl := folder_len (l.take k) name
    rw [List.length_take] at hfl
    have hhas := has_a p.1 (name ++ ⟨#[47]⟩)
    have hz := slash_size name
    have hw : IntKind.i64.wrap ((name.size : Int) + 1) = ((name.size + 1 : Nat) : Int) := by rw [wrap_in (by omega) (by omega)]; omega
    (repeat (first | apply AK.seq | apply AK.block | apply AK.blk | apply AK.skip | (refine AK.reg follows_any (rs := []) (by rfl) ?_ ?_; first | exact trivial | exact ⟨trivial, trivial⟩ | exact ⟨trivial, trivial, trivial⟩ | exact ⟨trivial, trivial, trivial, trivial⟩ | fail) | fail))
    refine AK.reg follows_any (rs := [.c [.str p.1, .str p.2]]) (by rfl) ?_ ?_
    · ((repeat' apply And.intro) <;> first | trivial | omega | (simp only [List.length_nil, List.length_cons]; omega) | (intro hgd; first | (rw [hgd]; rfl) | (refine ⟨?_, by repeat (first | exact trivial | refine ⟨hgd, ?_⟩)⟩; (repeat' apply And.intro) <;> first | trivial | omega | (intro h2; rw [hgd, h2]; rfl) | skip)) | skip)
      · exact rowsF_at hg
    (repeat (first | apply AK.seq | apply AK.block | apply AK.blk | apply AK.skip | (refine AK.reg follows_any (rs := []) (by rfl) ?_ ?_; first | exact trivial | exact ⟨trivial, trivial⟩ | exact ⟨trivial, trivial, trivial⟩ | exact ⟨trivial, trivial, trivial, trivial⟩ | fail) | fail))
    refine AK.reg follows_any (rs := [.v (.bool (hasB p.1 (name ++ ⟨#[47]⟩)))]) (by rfl) ?_ ?_
    · ((repeat' apply And.intro) <;> first | trivial | omega | (simp only [List.length_nil, List.length_cons]; omega) | (intro hgd; first | (rw [hgd]; rfl) | (refine ⟨?_, by repeat (first | exact trivial | refine ⟨hgd, ?_⟩)⟩; (repeat' apply And.intro) <;> first | trivial | omega | (intro h2; rw [hgd, h2]; rfl) | skip)) | skip)
      all_goals first | (show ((name.size + 1 : Nat) : Int) ≤ _; omega) | skip
    rw [hw]
    refine AK.cond (by rfl) (fun hb => ?_) (fun hb => ?_)
    · have hb2 : hasB p.1 (name ++ ⟨#[47]⟩) = true ∧ name.size + 1 < p.1.size := by
        simp only [Bool.and_eq_true, decide_eq_true_eq] at hb
        exact ⟨hb.1, by omega⟩
      have hc : cutF (name ++ ⟨#[47]⟩) p = some (p.1.extract (name.size + 1) p.1.size, p.2) := by
        rw [cutF, cut_ne hb2.1, hb2.1, hz, decide_eq_true hb2.2, cutS, if_pos hb2.1, hz]
        rfl
      rw [hc] at hst
      (repeat (first | apply AK.seq | apply AK.block | apply AK.blk | apply AK.skip | (refine AK.reg follows_any (rs := []) (by rfl) ?_ ?_; first | exact trivial | exact ⟨trivial, trivial⟩ | exact ⟨trivial, trivial, trivial⟩ | exact ⟨trivial, trivial, trivial, trivial⟩ | fail) | fail))
      refine AK.reg follows_any (rs := []) (by rfl) ?_ ?_
      · ((repeat' apply And.intro) <;> first | trivial | omega | (simp only [List.length_nil, List.length_cons]; omega) | (intro hgd; first | (rw [hgd]; rfl) | (refine ⟨?_, by repeat (first | exact trivial | refine ⟨hgd, ?_⟩)⟩; (repeat' apply And.intro) <;> first | trivial | omega | (intro h2; rw [hgd, h2]; rfl) | skip)) | skip)
        all_goals (try rw [hw])
        all_goals (try simp only [rowsF_len, List.length_nil, List.length_cons])
        all_goals omega
      rw [hw, Int.toNat_natCast, Int.toNat_natCast]
      (repeat (first | apply AK.seq | apply AK.block | apply AK.blk | apply AK.skip | (refine AK.reg follows_any (rs := []) (by rfl) ?_ ?_; first | exact trivial | exact ⟨trivial, trivial⟩ | exact ⟨trivial, trivial, trivial⟩ | exact ⟨trivial, trivial, trivial, trivial⟩ | fail) | fail))
      exact AK.lp ⟨(k + 1, _), by dsimp only; omega, Weak.intro ⟨⟨_, rfl, .refl _⟩, ⟨_, rfl, .refl _⟩, ⟨_, rfl, .refl _⟩, ⟨_, rfl, .of_eq (congrArg (AV.lst _ 2) (by rw [hst]; exact (rowsF_snoc _ (p.1.extract (name.size + 1) p.1.size, p.2)).symm))⟩, ⟨_, rfl, .refl _⟩, ⟨_, rfl, .refl _⟩, ⟨_, rfl, .of_eq (congrArg _ (by first | omega | (rw [wrap_in (by omega) (by omega)]; omega)))⟩, trivial⟩ trivial rfl rfl, by dsimp only; omega⟩
    · have hc : cutF (name ++ ⟨#[47]⟩) p = none := by
        rw [cutF, if_neg]
        intro h
        rw [Bool.and_eq_true] at h
        have h2 := h.2
        rw [cut_ne h.1, hz, decide_eq_true_eq] at h2
        rw [h.1, Bool.true_and, decide_eq_false_iff_not] at hb
        omega
      rw [hc] at hst
      (repeat (first | apply AK.seq | apply AK.block | apply AK.blk | apply AK.skip | (refine AK.reg follows_any (rs := []) (by rfl) ?_ ?_; first | exact trivial | exact ⟨trivial, trivial⟩ | exact ⟨trivial, trivial, trivial⟩ | exact ⟨trivial, trivial, trivial, trivial⟩ | fail) | fail))
      exact AK.lp ⟨(k + 1, r), by dsimp only; omega, Weak.intro ⟨⟨_, rfl, .refl _⟩, ⟨_, rfl, .refl _⟩, ⟨_, rfl, .refl _⟩, ⟨_, rfl, .of_eq (congrArg (AV.lst _ 2) (by rw [hst]; simp))⟩, ⟨_, rfl, .refl _⟩, ⟨_, rfl, .refl _⟩, ⟨_, rfl, .of_eq (congrArg _ (by first | omega | (rw [wrap_in (by omega) (by omega)]; omega)))⟩, trivial⟩ trivial rfl rfl, by dsimp only; omega⟩
  · have hlt : k = l.length := by have : l.length ≤ k := by simpa [rowsF_len] using hb
                                  omega
    subst hlt
    rw [List.take_length]
    have hF := folder_a l name hl hn
    have hfl := folder_len l name
    have hS := same_a (folderL l name) (folderL l name) (by omega) (by omega)
    have h1 := sum_a s hs
    have h2 := refSum_a s hs
    refine AK.exit rfl ?_
    (repeat (first | apply AK.seq | apply AK.block | apply AK.blk | apply AK.skip | (refine AK.reg follows_any (rs := []) (by rfl) ?_ ?_; first | exact trivial | exact ⟨trivial, trivial⟩ | exact ⟨trivial, trivial, trivial⟩ | exact ⟨trivial, trivial, trivial, trivial⟩ | fail) | fail))
    refine AK.reg follows_any (rs := [.v (.bool true), .v (.lst .any 2 (rowsF (folderL l name))), .v (.bool (decide (folderL l name = folderL l name))), .v (.int .u64 (sumI s s.size)), .v (.int .u64 (sumI s s.size))]) (by rfl) ?_ ?_
    · ((repeat' apply And.intro) <;> first | trivial | omega | (simp only [List.length_nil, List.length_cons]; omega) | (intro hgd; first | (rw [hgd]; rfl) | (refine ⟨?_, by repeat (first | exact trivial | refine ⟨hgd, ?_⟩)⟩; (repeat' apply And.intro) <;> first | trivial | omega | (intro h2; rw [hgd, h2]; rfl) | skip)) | skip)
    (repeat (first | apply AK.seq | apply AK.block | apply AK.blk | apply AK.skip | (refine AK.reg follows_any (rs := []) (by rfl) ?_ ?_; first | exact trivial | exact ⟨trivial, trivial⟩ | exact ⟨trivial, trivial, trivial⟩ | exact ⟨trivial, trivial, trivial, trivial⟩ | fail) | fail))
    refine AK.ret ⟨_, rfl, ?_⟩
    exact congrArg AV.bool (by simp)
end Go.Proofs.YtpcddcfpbohogaaDoor
