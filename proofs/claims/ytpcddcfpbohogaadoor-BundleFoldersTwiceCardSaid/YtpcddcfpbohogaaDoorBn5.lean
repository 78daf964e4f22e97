/-
  The law's function BundleFoldersTwice, walked.
-/
import Derived.Test.YtpcddcfpbohogaaDoorBn4
namespace Go.Proofs.YtpcddcfpbohogaaDoor
set_option linter.unusedSimpArgs false
set_option linter.unusedVariables false
open Go.RowKit

theorem bl_ext {a b : ByteArray} (h : a.data.toList = b.data.toList) : a = b := by
  cases a; cases b
  congr 1
  exact Array.toList_inj.1 h
theorem bl_app (a b : ByteArray) : (a ++ b).data.toList = a.data.toList ++ b.data.toList := by rw [ByteArray.data_append, Array.toList_append]
theorem bl_assoc (a b c : ByteArray) : a ++ b ++ c = a ++ (b ++ c) := bl_ext (by simp only [bl_app, List.append_assoc])
theorem has_app (q r : ByteArray) : hasB (q ++ r) q = true ∧ cutS (q ++ r) q = r := by
  have hz : (q ++ r).size = q.size + r.size := ByteArray.size_append
  have e1 : q.data.toList.length = q.size := by simp
  have h1 : hasB (q ++ r) q = true := by
    simp only [hasB, Bool.and_eq_true, decide_eq_true_eq]
    refine ⟨by omega, bl_ext ?_⟩
    rw [Lib.extract_eq, bl_app]
    simp only [List.drop_zero, Nat.sub_zero, List.toList_toArray]
    rw [← e1, List.take_left]
  refine ⟨h1, bl_ext ?_⟩
  rw [cutS, if_pos h1, Lib.extract_eq, bl_app, hz]
  simp only [List.toList_toArray]
  rw [← e1, List.drop_left, Nat.add_sub_cancel_left, List.take_of_length_le (by simp)]
theorem has_split {s q : ByteArray} (h : hasB s q = true) : s = q ++ cutS s q := by
  have h1 := h
  simp only [hasB, Bool.and_eq_true, decide_eq_true_eq] at h1
  refine bl_ext ?_
  have e1 : s.data.toList.length = s.size := by simp
  have h2 := congrArg (fun x : ByteArray => x.data.toList) h1.2
  simp only [Lib.extract_eq] at h2
  rw [cutS, if_pos h, Lib.extract_eq, bl_app, ← h2]
  simp only [List.drop_zero, Nat.sub_zero, List.toList_toArray]
  rw [List.take_of_length_le (l := s.data.toList.drop q.size) (by rw [List.length_drop, e1]; omega), List.take_append_drop]
theorem cutF_iff (q : ByteArray) (p x : Fl) : cutF q p = some x ↔ p.1 = q ++ x.1 ∧ x.1 ≠ ⟨#[]⟩ ∧ x.2 = p.2 := by
  constructor
  · intro h
    unfold cutF at h
    split at h
    · rename_i hc
      cases h
      rw [Bool.and_eq_true, Bool.not_eq_true', decide_eq_false_iff_not] at hc
      exact ⟨has_split hc.1, hc.2, rfl⟩
    · cases h
  · rintro ⟨h1, h2, h3⟩
    obtain ⟨e1, e2⟩ := has_app q x.1
    rw [← h1] at e1 e2
    rw [cutF, if_pos (by rw [e1, e2, decide_eq_false h2]; rfl), e2, ← h3]
def inL (l : List Fl) (a : ByteArray) : List Fl := l.map fun p => (a ++ ⟨#[47]⟩ ++ p.1, p.2)
theorem folder_in (a : ByteArray) : ∀ (l : List Fl), (∀ p ∈ l, p.1 ≠ ⟨#[]⟩) → folderL (inL l a) a = l
  | [], _ => rfl
  | p :: l, h => by
    have ih := folder_in a l fun q hq => h q (by simp [hq])
    have hc : cutF (a ++ ⟨#[47]⟩) (a ++ ⟨#[47]⟩ ++ p.1, p.2) = some p := (cutF_iff _ _ _).2 ⟨rfl, h p (by simp), rfl⟩
    show List.filterMap (cutF (a ++ ⟨#[47]⟩)) ((a ++ ⟨#[47]⟩ ++ p.1, p.2) :: inL l a) = p :: l
    rw [List.filterMap_cons, hc]
    show p :: folderL (inL l a) a = p :: l
    rw [ih]
theorem folder_twice (l : List Fl) (a b : ByteArray) : folderL (folderL l a) b = folderL l (a ++ ⟨#[47]⟩ ++ b) := by
  unfold folderL
  rw [List.filterMap_filterMap]
  congr 1
  funext p
  refine Option.ext fun x => ?_
  rw [Option.bind_eq_some_iff]
  constructor
  · rintro ⟨y, h1, h2⟩
    rw [cutF_iff] at h1 h2 ⊢
    refine ⟨?_, h2.2.1, h2.2.2.trans h1.2.2⟩
    rw [h1.1, h2.1]
    simp only [bl_assoc]
  · intro h
    rw [cutF_iff] at h
    refine ⟨(b ++ ⟨#[47]⟩ ++ x.1, p.2), ?_, ?_⟩
    · rw [cutF_iff]
      refine ⟨by rw [h.1]; simp only [bl_assoc], fun e => ?_, rfl⟩
      have hz := congrArg ByteArray.size e
      simp only [ByteArray.size_append] at hz
      have h1 : (ByteArray.mk #[47]).size = 1 := rfl
      have h0 : (ByteArray.mk #[]).size = 0 := rfl
      omega
    · rw [cutF_iff]
      exact ⟨rfl, h.2.1, h.2.2⟩
theorem in_take {l : List Fl} {k : Nat} {p : Fl} (h : l[k]? = some p) (a : ByteArray) : inL (l.take (k + 1)) a = inL (l.take k) a ++ [(a ++ ⟨#[47]⟩ ++ p.1, p.2)] := by
  rw [List.take_add_one, h, inL, List.map_append]
  rfl
theorem bundleFoldersTwice_a (l : List Fl) (a b : ByteArray) (hl : l.length ≤ 4398046511103) (hp : ∀ p ∈ l, p.1.size ≤ 140737488355328) (ha : a.size ≤ 140737488355328) (hb0 : b.size ≤ 140737488355328) :
    AC Tryd.prog 6 [.lst .any 2 (rowsF l), .str a, .str b] (.bool true) := by
  have haw := awake22_a
  have hL := light_a l (by omega)
  have hw0 : IntKind.i64.wrap ((a.size : Int) + (b.size : Int)) = ((a.size + b.size : Nat) : Int) := by rw [wrap_in (by omega) (by omega)]; omega
  refine AC.enter Tryd.func6 a_law22_BundleFoldersTwice_ok a_law22_BundleFoldersTwice_cb (by rfl) fun E hE => ?_
  show AK _ _ _ [.c b_law22_BundleFoldersTwice] _ _
  rw [b_law22_BundleFoldersTwice]
  (repeat (first | apply AK.seq | apply AK.block | apply AK.blk | apply AK.skip | (refine AK.reg follows_any (rs := []) (by rfl) ?_ ?_; first | exact trivial | exact ⟨trivial, trivial⟩ | exact ⟨trivial, trivial, trivial⟩ | exact ⟨trivial, trivial, trivial, trivial⟩ | fail) | fail))
  refine AK.reg follows_any (rs := [.v (.bool (decide (lightN l l.length ≤ 3000)))]) (by rfl) ?_ ?_
  · ((repeat' apply And.intro) <;> first | trivial | omega | (simp only [List.length_nil, List.length_cons]; omega) | (intro hgd; first | (rw [hgd]; rfl) | (refine ⟨?_, by repeat (first | exact trivial | refine ⟨hgd, ?_⟩)⟩; (repeat' apply And.intro) <;> first | trivial | omega | (intro h2; rw [hgd, h2]; rfl) | skip)) | skip)
  rw [hw0]
  refine AK.cond (by rfl) (fun hb => ?_) (fun hb => ?_)
  · (repeat (first | apply AK.seq | apply AK.block | apply AK.blk | apply AK.skip | (refine AK.reg follows_any (rs := []) (by rfl) ?_ ?_; first | exact trivial | exact ⟨trivial, trivial⟩ | exact ⟨trivial, trivial, trivial⟩ | exact ⟨trivial, trivial, trivial, trivial⟩ | fail) | fail))
    refine AK.reg follows_any (rs := [.v (.bool true)]) (by rfl) ?_ ?_
    · ((repeat' apply And.intro) <;> first | trivial | omega | (simp only [List.length_nil, List.length_cons]; omega) | (intro hgd; first | (rw [hgd]; rfl) | (refine ⟨?_, by repeat (first | exact trivial | refine ⟨hgd, ?_⟩)⟩; (repeat' apply And.intro) <;> first | trivial | omega | (intro h2; rw [hgd, h2]; rfl) | skip)) | skip)
    (repeat (first | apply AK.seq | apply AK.block | apply AK.blk | apply AK.skip | (refine AK.reg follows_any (rs := []) (by rfl) ?_ ?_; first | exact trivial | exact ⟨trivial, trivial⟩ | exact ⟨trivial, trivial, trivial⟩ | exact ⟨trivial, trivial, trivial, trivial⟩ | fail) | fail))
    refine AK.ret ⟨_, rfl, ?_⟩
    rfl
  simp only [Bool.or_eq_false_iff, decide_eq_false_iff_not] at hb
  obtain ⟨_, hab⟩ := hb
  have hza := slash_size a
  (repeat (first | apply AK.seq | apply AK.block | apply AK.blk | apply AK.skip | (refine AK.reg follows_any (rs := []) (by rfl) ?_ ?_; first | exact trivial | exact ⟨trivial, trivial⟩ | exact ⟨trivial, trivial, trivial⟩ | exact ⟨trivial, trivial, trivial, trivial⟩ | fail) | fail))
  refine AK.loopI (fun i : Nat × (Nat → Nat) => (frOf [(0, .lst .any 2 (rowsF l)), (1, .str a), (2, .str b), (7, .lst (.own 42 (i.2 42)) 2 (rowsF (inL (l.take i.1) a))), (22, .lst .any 2 (rowsF l)), (23, .int .i64 (rowsF l).length), (24, .int .i64 i.1)], ⟨boxOf [], i.2⟩))
    (fun i => i.1 ≤ l.length ∧ ∀ (j : Nat) p, j < i.1 → l[j]? = some p → p.1 ≠ ⟨#[]⟩) (fun i => l.length - i.1) (0, fun _ => 0) ⟨Nat.zero_le _, fun j p h => by omega⟩ (Weak.intro ⟨⟨_, rfl, .refl _⟩, ⟨_, rfl, .refl _⟩, ⟨_, rfl, .refl _⟩, ⟨_, rfl, .one (.own _ _ _ _)⟩, ⟨_, rfl, .refl _⟩, ⟨_, rfl, .refl _⟩, ⟨_, rfl, .refl _⟩, trivial⟩ trivial rfl rfl) fun ⟨k, r⟩ ⟨hk, hne⟩ => ?_
  dsimp only at hk hne
  (repeat (first | apply AK.seq | apply AK.block | apply AK.blk | apply AK.skip | (refine AK.reg follows_any (rs := []) (by rfl) ?_ ?_; first | exact trivial | exact ⟨trivial, trivial⟩ | exact ⟨trivial, trivial, trivial⟩ | exact ⟨trivial, trivial, trivial, trivial⟩ | fail) | fail))
  refine AK.cond (by rfl) (fun hb => ?_) (fun hb => ?_)
  · have hlt : k < l.length := by simpa [rowsF_len] using hb
    obtain ⟨p, hg⟩ : ∃ x, l[k]? = some x := ⟨_, List.getElem?_eq_getElem hlt⟩
    have hst := in_take hg a
    have hpz := hp p (List.mem_of_getElem? hg)
    have hil : (inL (l.take k) a).length = k := by rw [inL, List.length_map, List.length_take]; omega
    (repeat (first | apply AK.seq | apply AK.block | apply AK.blk | apply AK.skip | (refine AK.reg follows_any (rs := []) (by rfl) ?_ ?_; first | exact trivial | exact ⟨trivial, trivial⟩ | exact ⟨trivial, trivial, trivial⟩ | exact ⟨trivial, trivial, trivial, trivial⟩ | fail) | fail))
    refine AK.reg follows_any (rs := [.c [.str p.1, .str p.2]]) (by rfl) ?_ ?_
    · ((repeat' apply And.intro) <;> first | trivial | omega | (simp only [List.length_nil, List.length_cons]; omega) | (intro hgd; first | (rw [hgd]; rfl) | (refine ⟨?_, by repeat (first | exact trivial | refine ⟨hgd, ?_⟩)⟩; (repeat' apply And.intro) <;> first | trivial | omega | (intro h2; rw [hgd, h2]; rfl) | skip)) | skip)
      · exact rowsF_at hg
    (repeat (first | apply AK.seq | apply AK.block | apply AK.blk | apply AK.skip | (refine AK.reg follows_any (rs := []) (by rfl) ?_ ?_; first | exact trivial | exact ⟨trivial, trivial⟩ | exact ⟨trivial, trivial, trivial⟩ | exact ⟨trivial, trivial, trivial, trivial⟩ | fail) | fail))
    refine AK.cond (by rfl) (fun hb => ?_) (fun hb => ?_)
    · (repeat (first | apply AK.seq | apply AK.block | apply AK.blk | apply AK.skip | (refine AK.reg follows_any (rs := []) (by rfl) ?_ ?_; first | exact trivial | exact ⟨trivial, trivial⟩ | exact ⟨trivial, trivial, trivial⟩ | exact ⟨trivial, trivial, trivial, trivial⟩ | fail) | fail))
      refine AK.reg follows_any (rs := [.v (.bool true)]) (by rfl) ?_ ?_
      · ((repeat' apply And.intro) <;> first | trivial | omega | (simp only [List.length_nil, List.length_cons]; omega) | (intro hgd; first | (rw [hgd]; rfl) | (refine ⟨?_, by repeat (first | exact trivial | refine ⟨hgd, ?_⟩)⟩; (repeat' apply And.intro) <;> first | trivial | omega | (intro h2; rw [hgd, h2]; rfl) | skip)) | skip)
      (repeat (first | apply AK.seq | apply AK.block | apply AK.blk | apply AK.skip | (refine AK.reg follows_any (rs := []) (by rfl) ?_ ?_; first | exact trivial | exact ⟨trivial, trivial⟩ | exact ⟨trivial, trivial, trivial⟩ | exact ⟨trivial, trivial, trivial, trivial⟩ | fail) | fail))
      refine AK.ret ⟨_, rfl, ?_⟩
      rfl
    have hpe : p.1 ≠ ⟨#[]⟩ := by simpa using hb
    (repeat (first | apply AK.seq | apply AK.block | apply AK.blk | apply AK.skip | (refine AK.reg follows_any (rs := []) (by rfl) ?_ ?_; first | exact trivial | exact ⟨trivial, trivial⟩ | exact ⟨trivial, trivial, trivial⟩ | exact ⟨trivial, trivial, trivial, trivial⟩ | fail) | fail))
    refine AK.reg follows_any (rs := []) (by rfl) ?_ ?_
    · ((repeat' apply And.intro) <;> first | trivial | omega | (simp only [List.length_nil, List.length_cons]; omega) | (intro hgd; first | (rw [hgd]; rfl) | (refine ⟨?_, by repeat (first | exact trivial | refine ⟨hgd, ?_⟩)⟩; (repeat' apply And.intro) <;> first | trivial | omega | (intro h2; rw [hgd, h2]; rfl) | skip)) | skip)
      all_goals (try simp only [rowsF_len, List.length_nil, List.length_cons, hil, ByteArray.size_append])
      all_goals (try have h1 : (ByteArray.mk #[47]).size = 1 := rfl)
      all_goals omega
    (repeat (first | apply AK.seq | apply AK.block | apply AK.blk | apply AK.skip | (refine AK.reg follows_any (rs := []) (by rfl) ?_ ?_; first | exact trivial | exact ⟨trivial, trivial⟩ | exact ⟨trivial, trivial, trivial⟩ | exact ⟨trivial, trivial, trivial, trivial⟩ | fail) | fail))
    exact AK.lp ⟨(k + 1, _), ⟨by dsimp only; omega, fun j q h hq => by
      by_cases e : j = k
      · subst e; rw [hg] at hq; cases hq; exact hpe
      · exact hne j q (by dsimp only at h; omega) hq⟩, Weak.intro ⟨⟨_, rfl, .refl _⟩, ⟨_, rfl, .refl _⟩, ⟨_, rfl, .refl _⟩, ⟨_, rfl, .of_eq (congrArg (AV.lst _ 2) (by rw [hst]; exact (rowsF_snoc _ (a ++ ⟨#[47]⟩ ++ p.1, p.2)).symm))⟩, ⟨_, rfl, .refl _⟩, ⟨_, rfl, .refl _⟩, ⟨_, rfl, .of_eq (congrArg _ (by first | omega | (rw [wrap_in (by omega) (by omega)]; omega)))⟩, trivial⟩ trivial rfl rfl, by dsimp only; omega⟩
  · have hlt : k = l.length := by have : l.length ≤ k := by simpa [rowsF_len] using hb
                                  omega
    subst hlt
    rw [List.take_length]
    have hall : ∀ p ∈ l, p.1 ≠ ⟨#[]⟩ := fun p hm => by
      obtain ⟨j, hj⟩ := List.getElem?_of_mem hm
      exact hne j p (List.getElem?_eq_some_iff.1 hj).1 hj
    have hI : (inL l a).length = l.length := by rw [inL, List.length_map]
    have hF1 := folder_a (inL l a) a (by omega) ha
    rw [folder_in a l hall] at hF1
    have hF2 := folder_a l a hl ha
    have hl2 := folder_len l a
    have hF3 := folder_a (folderL l a) b (by omega) hb0
    rw [folder_twice] at hF3
    have hF4 := folder_a l (a ++ ⟨#[47]⟩ ++ b) hl (by simp only [ByteArray.size_append]; have h1 : (ByteArray.mk #[47]).size = 1 := rfl; omega)
    have hl4 := folder_len l (a ++ ⟨#[47]⟩ ++ b)
    have hS1 := same_a l l (by omega) (by omega)
    have hS2 := same_a (folderL l (a ++ ⟨#[47]⟩ ++ b)) (folderL l (a ++ ⟨#[47]⟩ ++ b)) (by omega) (by omega)
    rw [decide_eq_true rfl] at hS1 hS2
    refine AK.exit rfl ?_
    (repeat (first | apply AK.seq | apply AK.block | apply AK.blk | apply AK.skip | (refine AK.reg follows_any (rs := []) (by rfl) ?_ ?_; first | exact trivial | exact ⟨trivial, trivial⟩ | exact ⟨trivial, trivial, trivial⟩ | exact ⟨trivial, trivial, trivial, trivial⟩ | fail) | fail))
    refine AK.reg follows_any (rs := [.v (.bool true), .v (.lst .any 2 (rowsF l)), .v (.bool true), .v (.lst .any 2 (rowsF (folderL l a))), .v (.lst .any 2 (rowsF (folderL l (a ++ ⟨#[47]⟩ ++ b)))), .v (.lst .any 2 (rowsF (folderL l (a ++ ⟨#[47]⟩ ++ b)))), .v (.bool true)]) (by rfl) ?_ ?_
    · ((repeat' apply And.intro) <;> first | trivial | omega | (simp only [List.length_nil, List.length_cons]; omega) | (intro hgd; first | (rw [hgd]; rfl) | (refine ⟨?_, by repeat (first | exact trivial | refine ⟨hgd, ?_⟩)⟩; (repeat' apply And.intro) <;> first | trivial | omega | (intro h2; rw [hgd, h2]; rfl) | skip)) | skip)
      all_goals (try simp only [ByteArray.size_append])
      all_goals (try have h1 : (ByteArray.mk #[47]).size = 1 := rfl)
      all_goals omega
    (repeat (first | apply AK.seq | apply AK.block | apply AK.blk | apply AK.skip | (refine AK.reg follows_any (rs := []) (by rfl) ?_ ?_; first | exact trivial | exact ⟨trivial, trivial⟩ | exact ⟨trivial, trivial, trivial⟩ | exact ⟨trivial, trivial, trivial, trivial⟩ | fail) | fail))
    refine AK.ret ⟨_, rfl, ?_⟩
    exact congrArg AV.bool (by simp)
end Go.Proofs.YtpcddcfpbohogaaDoor
