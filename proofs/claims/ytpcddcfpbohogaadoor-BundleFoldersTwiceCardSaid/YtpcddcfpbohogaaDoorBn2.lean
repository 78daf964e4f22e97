/-
  Files: alike, folders, the document's example, walked.
-/
import Derived.Test.YtpcddcfpbohogaaDoorBn1
import Derived.Shelf.Strings.LastIndex
namespace Go.Proofs.YtpcddcfpbohogaaDoor
set_option linter.unusedSimpArgs false
set_option linter.unusedVariables false
open Go.RowKit

theorem heldF : Tryd.prog.stoodInHeld 36 = false := by kernel_rfl
theorem guardF : Tryd.prog.eqGuardType Tryd.prog.depth 36 = false := by kernel_rfl
theorem tl_iff2 (a b : ByteArray) : a.toList = b.toList ↔ a = b := ⟨LastIndex.eq_of_toList, fun h => by rw [h]⟩
theorem eqF_any (a b d e : ByteArray) : EqRun Tryd.prog true 36 [.string a, .string b] [.string d, .string e] (eqCells [.str a, .str b] [.str d, .str e]) := by
  intro w x y
  constructor
  · simp [go_sem, eqGuard, eqOp, guardF]
  · simp [go_sem, eqOp, heldF, eqCells, tl_iff2]
    by_cases h1 : a = d <;> by_cases h2 : b = e <;> simp [h1, h2]
theorem eqCells_two (a b d e : ByteArray) : eqCells [.str a, .str b] [.str d, .str e] = decide ((a, b) = (d, e)) := by
  simp [eqCells]
theorem same_a (a b : List Fl) (ha : a.length ≤ 4398046511104) (hb0 : b.length ≤ 4398046511104) : AC Tryd.prog 18 [.lst .any 2 (rowsF a), .lst .any 2 (rowsF b)] (.bool (decide (a = b))) := by
  refine AC.enter Tryd.func18 a_law10_Same_ok a_law10_Same_cb (by rfl) fun E hE => ?_
  show AK _ _ _ [.c b_law10_Same] _ _
  rw [b_law10_Same]
  (repeat (first | apply AK.seq | apply AK.block | apply AK.blk | apply AK.skip | (refine AK.reg follows_any (rs := []) (by rfl) ?_ ?_; first | exact trivial | exact ⟨trivial, trivial⟩ | exact ⟨trivial, trivial, trivial⟩ | exact ⟨trivial, trivial, trivial, trivial⟩ | fail) | fail))
  refine AK.cond (by rfl) (fun hb => ?_) (fun hb => ?_)
  · have hne : a ≠ b := by
      rintro rfl
      simp at hb
    (repeat (first | apply AK.seq | apply AK.block | apply AK.blk | apply AK.skip | (refine AK.reg follows_any (rs := []) (by rfl) ?_ ?_; first | exact trivial | exact ⟨trivial, trivial⟩ | exact ⟨trivial, trivial, trivial⟩ | exact ⟨trivial, trivial, trivial, trivial⟩ | fail) | fail))
    refine AK.ret ⟨_, rfl, ?_⟩
    rw [decide_eq_false hne]
    rfl
  have hlen : a.length = b.length := by
    have : ¬ ¬ ((rowsF a).length : Int) = (rowsF b).length := by simpa using hb
    rw [rowsF_len, rowsF_len] at this
    omega
  (repeat (first | apply AK.seq | apply AK.block | apply AK.blk | apply AK.skip | (refine AK.reg follows_any (rs := []) (by rfl) ?_ ?_; first | exact trivial | exact ⟨trivial, trivial⟩ | exact ⟨trivial, trivial, trivial⟩ | exact ⟨trivial, trivial, trivial, trivial⟩ | fail) | fail))
  refine AK.loopI (fun k : Nat => (frOf [(0, .lst .any 2 (rowsF a)), (1, .lst .any 2 (rowsF b)), (12, .int .i64 (rowsF a).length), (13, .int .i64 k)], ⟨boxOf [], fun _ => 0⟩)) (fun k => k ≤ a.length ∧ ∀ j, j < k → a[j]? = b[j]?) (fun k => a.length - k) 0 ⟨Nat.zero_le _, fun j h => by omega⟩ (Weak.intro ⟨⟨_, rfl, .refl _⟩, ⟨_, rfl, .refl _⟩, ⟨_, rfl, .refl _⟩, ⟨_, rfl, .refl _⟩, trivial⟩ trivial rfl rfl) fun k ⟨hk, hno⟩ => ?_
  (repeat (first | apply AK.seq | apply AK.block | apply AK.blk | apply AK.skip | (refine AK.reg follows_any (rs := []) (by rfl) ?_ ?_; first | exact trivial | exact ⟨trivial, trivial⟩ | exact ⟨trivial, trivial, trivial⟩ | exact ⟨trivial, trivial, trivial, trivial⟩ | fail) | fail))
  refine AK.cond (by rfl) (fun hb => ?_) (fun hb => ?_)
  · have hlt : k < a.length := by simpa [rowsF_len] using hb
    obtain ⟨p, hg⟩ : ∃ x, a[k]? = some x := ⟨_, List.getElem?_eq_getElem hlt⟩
    obtain ⟨q, hq⟩ : ∃ x, b[k]? = some x := ⟨_, List.getElem?_eq_getElem (by omega)⟩
    (repeat (first | apply AK.seq | apply AK.block | apply AK.blk | apply AK.skip | (refine AK.reg follows_any (rs := []) (by rfl) ?_ ?_; first | exact trivial | exact ⟨trivial, trivial⟩ | exact ⟨trivial, trivial, trivial⟩ | exact ⟨trivial, trivial, trivial, trivial⟩ | fail) | fail))
    refine AK.reg follows_any (rs := [.c [.str p.1, .str p.2], .c [.str q.1, .str q.2]]) (by rfl) ?_ ?_
    · ((repeat' apply And.intro) <;> first | trivial | omega | (simp only [List.length_nil, List.length_cons]; omega) | (intro hgd; first | (rw [hgd]; rfl) | (refine ⟨?_, by repeat (first | exact trivial | refine ⟨hgd, ?_⟩)⟩; (repeat' apply And.intro) <;> first | trivial | omega | (intro h2; rw [hgd, h2]; rfl) | skip)) | skip)
      all_goals first | exact rowsF_at hg | exact rowsF_at hq | exact eqF_any _ _ _ _ | skip
    rw [eqCells_two]
    refine AK.cond (by rfl) (fun hb => ?_) (fun hb => ?_)
    · have hne : a ≠ b := by
        rintro rfl
        rw [hg] at hq
        cases hq
        simp at hb
      (repeat (first | apply AK.seq | apply AK.block | apply AK.blk | apply AK.skip | (refine AK.reg follows_any (rs := []) (by rfl) ?_ ?_; first | exact trivial | exact ⟨trivial, trivial⟩ | exact ⟨trivial, trivial, trivial⟩ | exact ⟨trivial, trivial, trivial, trivial⟩ | fail) | fail))
      refine AK.ret ⟨_, rfl, ?_⟩
      rw [decide_eq_false hne]
      rfl
    · have h2 : p.1 = q.1 ∧ p.2 = q.2 := by simpa using hb
      have he : p = q := Prod.ext h2.1 h2.2
      (repeat (first | apply AK.seq | apply AK.block | apply AK.blk | apply AK.skip | (refine AK.reg follows_any (rs := []) (by rfl) ?_ ?_; first | exact trivial | exact ⟨trivial, trivial⟩ | exact ⟨trivial, trivial, trivial⟩ | exact ⟨trivial, trivial, trivial, trivial⟩ | fail) | fail))
      exact AK.lp ⟨k + 1, ⟨by omega, fun j h => by
        by_cases e : j = k
        · subst e; rw [hg, hq, he]
        · exact hno j (by omega)⟩, Weak.intro ⟨⟨_, rfl, .refl _⟩, ⟨_, rfl, .refl _⟩, ⟨_, rfl, .refl _⟩, ⟨_, rfl, .of_eq (congrArg _ (by first | omega | (rw [wrap_in (by omega) (by omega)]; omega)))⟩, trivial⟩ trivial rfl rfl, by omega⟩
  · have hlt : a.length ≤ k := by simpa [rowsF_len] using hb
    have he : a = b := List.ext_getElem? fun j => by
      by_cases h : j < k
      · exact hno j h
      · rw [List.getElem?_eq_none (by omega), List.getElem?_eq_none (by omega)]
    refine AK.exit rfl ?_
    (repeat (first | apply AK.seq | apply AK.block | apply AK.blk | apply AK.skip | (refine AK.reg follows_any (rs := []) (by rfl) ?_ ?_; first | exact trivial | exact ⟨trivial, trivial⟩ | exact ⟨trivial, trivial, trivial⟩ | exact ⟨trivial, trivial, trivial, trivial⟩ | fail) | fail))
    refine AK.ret ⟨_, rfl, ?_⟩
    rw [decide_eq_true he]
    rfl
/-- a file as it stands in a folder -/
def cutF (q : ByteArray) (p : Fl) : Option Fl := if hasB p.1 q && !decide (cutS p.1 q = ⟨#[]⟩) then some (cutS p.1 q, p.2) else none
def folderL (l : List Fl) (name : ByteArray) : List Fl := l.filterMap (cutF (name ++ ⟨#[47]⟩))
theorem folder_take {l : List Fl} {k : Nat} {p : Fl} (h : l[k]? = some p) (name : ByteArray) : folderL (l.take (k + 1)) name = folderL (l.take k) name ++ (cutF (name ++ ⟨#[47]⟩) p).toList := by
  rw [List.take_add_one, h, folderL, List.filterMap_append]
  simp only [folderL, Option.toList]
  congr 1
theorem folder_len (l : List Fl) (name : ByteArray) : (folderL l name).length ≤ l.length := List.length_filterMap_le _ _
theorem folder_a (l : List Fl) (name : ByteArray) (hl : l.length ≤ 4398046511103) (hn : name.size ≤ 140737488355328) : AC Tryd.prog 19 [.lst .any 2 (rowsF l), .str name] (.lst .any 2 (rowsF (folderL l name))) := by
  refine AC.enter Tryd.func19 a_bundle_Folder_ok a_bundle_Folder_cb (by rfl) fun E hE => ?_
  show AK _ _ _ [.c b_bundle_Folder] _ _
  rw [b_bundle_Folder]
  (repeat (first | apply AK.seq | apply AK.block | apply AK.blk | apply AK.skip | (refine AK.reg follows_any (rs := []) (by rfl) ?_ ?_; first | exact trivial | exact ⟨trivial, trivial⟩ | exact ⟨trivial, trivial, trivial⟩ | exact ⟨trivial, trivial, trivial, trivial⟩ | fail) | fail))
  refine AK.loopI (fun i : Nat × (Nat → Nat) => (frOf [(1, .str name), (5, .lst (.own 35 (i.2 35)) 2 (rowsF (folderL (l.take i.1) name))), (10, .lst .any 2 (rowsF l)), (11, .int .i64 (rowsF l).length), (12, .int .i64 i.1)], ⟨boxOf [], i.2⟩))
    (fun i => i.1 ≤ l.length) (fun i => l.length - i.1) (0, fun _ => 0) (Nat.zero_le _) (Weak.intro ⟨⟨_, rfl, .refl _⟩, ⟨_, rfl, .one (.own _ _ _ _)⟩, ⟨_, rfl, .refl _⟩, ⟨_, rfl, .refl _⟩, ⟨_, rfl, .refl _⟩, trivial⟩ trivial rfl rfl) fun ⟨k, r⟩ hk => ?_
  dsimp only at hk
  (repeat (first | apply AK.seq | apply AK.block | apply AK.blk | apply AK.skip | (refine AK.reg follows_any (rs := []) (by rfl) ?_ ?_; first | exact trivial | exact ⟨trivial, trivial⟩ | exact ⟨trivial, trivial, trivial⟩ | exact ⟨trivial, trivial, trivial, trivial⟩ | fail) | fail))
  refine AK.cond (by rfl) (fun hb => ?_) (fun hb => ?_)
  · have hlt : k < l.length := by simpa [rowsF_len] using hb
    obtain ⟨p, hg⟩ : ∃ x, l[k]? = some x := ⟨_, List.getElem?_eq_getElem hlt⟩
    have hst := folder_take hg name
    have hfl := folder_len (l.take k) name
    rw [List.length_take] at hfl
    have hcut := cut_a p.1 (name ++ ⟨#[47]⟩)
    have hz : (name ++ ByteArray.mk #[47]).size = name.size + 1 := by rw [ByteArray.size_append]; rfl
    (repeat (first | apply AK.seq | apply AK.block | apply AK.blk | apply AK.skip | (refine AK.reg follows_any (rs := []) (by rfl) ?_ ?_; first | exact trivial | exact ⟨trivial, trivial⟩ | exact ⟨trivial, trivial, trivial⟩ | exact ⟨trivial, trivial, trivial, trivial⟩ | fail) | fail))
    refine AK.reg follows_any (rs := [.c [.str p.1, .str p.2]]) (by rfl) ?_ ?_
    · ((repeat' apply And.intro) <;> first | trivial | omega | (simp only [List.length_nil, List.length_cons]; omega) | (intro hgd; first | (rw [hgd]; rfl) | (refine ⟨?_, by repeat (first | exact trivial | refine ⟨hgd, ?_⟩)⟩; (repeat' apply And.intro) <;> first | trivial | omega | (intro h2; rw [hgd, h2]; rfl) | skip)) | skip)
      · exact rowsF_at hg
    (repeat (first | apply AK.seq | apply AK.block | apply AK.blk | apply AK.skip | (refine AK.reg follows_any (rs := []) (by rfl) ?_ ?_; first | exact trivial | exact ⟨trivial, trivial⟩ | exact ⟨trivial, trivial, trivial⟩ | exact ⟨trivial, trivial, trivial, trivial⟩ | fail) | fail))
    refine AK.reg follows_any (rs := [.v (.tup [.str (cutS p.1 (name ++ ⟨#[47]⟩)), .bool (hasB p.1 (name ++ ⟨#[47]⟩))])]) (by rfl) ?_ ?_
    · ((repeat' apply And.intro) <;> first | trivial | omega | (simp only [List.length_nil, List.length_cons]; omega) | (intro hgd; first | (rw [hgd]; rfl) | (refine ⟨?_, by repeat (first | exact trivial | refine ⟨hgd, ?_⟩)⟩; (repeat' apply And.intro) <;> first | trivial | omega | (intro h2; rw [hgd, h2]; rfl) | skip)) | skip)
      all_goals first | (show ((name.size + 1 : Nat) : Int) ≤ _; omega) | skip
    (repeat (first | apply AK.seq | apply AK.block | apply AK.blk | apply AK.skip | (refine AK.reg follows_any (rs := []) (by rfl) ?_ ?_; first | exact trivial | exact ⟨trivial, trivial⟩ | exact ⟨trivial, trivial, trivial⟩ | exact ⟨trivial, trivial, trivial, trivial⟩ | fail) | fail))
    refine AK.reg follows_any (rs := []) (by rfl) ?_ ?_
    · ((repeat' apply And.intro) <;> first | trivial | omega | (simp only [List.length_nil, List.length_cons]; omega) | (intro hgd; first | (rw [hgd]; rfl) | (refine ⟨?_, by repeat (first | exact trivial | refine ⟨hgd, ?_⟩)⟩; (repeat' apply And.intro) <;> first | trivial | omega | (intro h2; rw [hgd, h2]; rfl) | skip)) | skip)
    refine AK.cond (by rfl) (fun hb => ?_) (fun hb => ?_)
    · have hc : cutF (name ++ ⟨#[47]⟩) p = some (cutS p.1 (name ++ ⟨#[47]⟩), p.2) := by rw [cutF, if_pos hb]
      rw [hc] at hst
      (repeat (first | apply AK.seq | apply AK.block | apply AK.blk | apply AK.skip | (refine AK.reg follows_any (rs := []) (by rfl) ?_ ?_; first | exact trivial | exact ⟨trivial, trivial⟩ | exact ⟨trivial, trivial, trivial⟩ | exact ⟨trivial, trivial, trivial, trivial⟩ | fail) | fail))
      refine AK.reg follows_any (rs := []) (by rfl) ?_ ?_
      · ((repeat' apply And.intro) <;> first | trivial | omega | (simp only [List.length_nil, List.length_cons]; omega) | (intro hgd; first | (rw [hgd]; rfl) | (refine ⟨?_, by repeat (first | exact trivial | refine ⟨hgd, ?_⟩)⟩; (repeat' apply And.intro) <;> first | trivial | omega | (intro h2; rw [hgd, h2]; rfl) | skip)) | skip)
        all_goals simp only [rowsF_len, List.length_nil, List.length_cons]
        all_goals omega
      (repeat (first | apply AK.seq | apply AK.block | apply AK.blk | apply AK.skip | (refine AK.reg follows_any (rs := []) (by rfl) ?_ ?_; first | exact trivial | exact ⟨trivial, trivial⟩ | exact ⟨trivial, trivial, trivial⟩ | exact ⟨trivial, trivial, trivial, trivial⟩ | fail) | fail))
      exact AK.lp ⟨(k + 1, _), by dsimp only; omega, Weak.intro ⟨⟨_, rfl, .refl _⟩, ⟨_, rfl, .of_eq (congrArg (AV.lst _ 2) (by rw [hst]; exact (rowsF_snoc _ (cutS p.1 (name ++ ⟨#[47]⟩), p.2)).symm))⟩, ⟨_, rfl, .refl _⟩, ⟨_, rfl, .refl _⟩, ⟨_, rfl, .of_eq (congrArg _ (by first | omega | (rw [wrap_in (by omega) (by omega)]; omega)))⟩, trivial⟩ trivial rfl rfl, by dsimp only; omega⟩
    · have hc : cutF (name ++ ⟨#[47]⟩) p = none := by rw [cutF, if_neg (by rw [hb]; simp)]
      rw [hc] at hst
      (repeat (first | apply AK.seq | apply AK.block | apply AK.blk | apply AK.skip | (refine AK.reg follows_any (rs := []) (by rfl) ?_ ?_; first | exact trivial | exact ⟨trivial, trivial⟩ | exact ⟨trivial, trivial, trivial⟩ | exact ⟨trivial, trivial, trivial, trivial⟩ | fail) | fail))
      exact AK.lp ⟨(k + 1, r), by dsimp only; omega, Weak.intro ⟨⟨_, rfl, .refl _⟩, ⟨_, rfl, .of_eq (congrArg (AV.lst _ 2) (by rw [hst]; simp))⟩, ⟨_, rfl, .refl _⟩, ⟨_, rfl, .refl _⟩, ⟨_, rfl, .of_eq (congrArg _ (by first | omega | (rw [wrap_in (by omega) (by omega)]; omega)))⟩, trivial⟩ trivial rfl rfl, by dsimp only; omega⟩
  · have hlt : k = l.length := by have : l.length ≤ k := by simpa [rowsF_len] using hb
                                  omega
    subst hlt
    rw [List.take_length]
    refine AK.exit rfl ?_
    (repeat (first | apply AK.seq | apply AK.block | apply AK.blk | apply AK.skip | (refine AK.reg follows_any (rs := []) (by rfl) ?_ ?_; first | exact trivial | exact ⟨trivial, trivial⟩ | exact ⟨trivial, trivial, trivial⟩ | exact ⟨trivial, trivial, trivial, trivial⟩ | fail) | fail))
    refine AK.ret ⟨_, rfl, ?_⟩
    rfl
end Go.Proofs.YtpcddcfpbohogaaDoor
