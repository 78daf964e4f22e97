/-
  Words: the program's texts, walked: strings.IndexByte and strings.Join off the shelf; Quote by its contract.
-/
import Derived.Test.YtamecdecpmklmaaDoorRp4
import Derived.Test.YtamecdecpmklmaaDoorLst
import Derived.Test.YtamecdecpmklmaaDoorShl
namespace Go.Proofs.YtamecdecpmklmaaDoor
set_option linter.unusedSimpArgs false
set_option linter.unusedVariables false
open Go.RowKit

theorem indexByte_a (s : ByteArray) (c : Int) : AC Tryd.prog 29 [.str s, .int .u8 c] (.int .i64 (Lib.indexByte s.data.toList c.toNat.toUInt8)) := by
  refine ⟨by kernel_rfl, fun σ w vs hh hr hg => ?_⟩
  have hl : vs.length = 2 := hr.1
  obtain ⟨v1, v2, rfl⟩ : ∃ a b, vs = [a, b] := by
    rcases vs with _ | ⟨a, _ | ⟨b, _ | ⟨d, l⟩⟩⟩ <;> simp at hl
    exact ⟨a, b, rfl⟩
  have h1 : Rel1 σ v1 (.str s) := hr.2 0 v1 _ rfl rfl
  have h2 : Rel1 σ v2 (.int .u8 c) := hr.2 1 v2 _ rfl rfl
  cases h1; cases h2
  refine (Tryd.strings_IndexByte s c w).mono ?_
  rintro e w' ⟨rfl, rfl⟩
  exact ⟨σ, _, rfl, Ext.refl _ _, hh, Below.refl _ _, .int _ _⟩
theorem rowsW_flat (l : List ByteArray) : (rowsW l).flatten = l.map AV.str := by
  induction l with
  | nil => rfl
  | cons s l ih => rw [rowsW, List.map_cons, List.flatten_cons]; show [AV.str s] ++ (rowsW l).flatten = _; rw [ih]; rfl
theorem join_a (l : List ByteArray) (sep : ByteArray) (hne : 0 < l.length) (hN : l.length ≤ 140737488355328) (hlen : (Lib.join (l.map (·.data.toList)) sep.data.toList).length ≤ 140737488355328) :
    AC Tryd.prog 12 [.lst .any 1 (rowsW l), .str sep] (.str ⟨(Lib.join (l.map (·.data.toList)) sep.data.toList).toArray⟩) := by
  refine ⟨by kernel_rfl, fun σ w vs hh hr hg => ?_⟩
  have hl : vs.length = 2 := hr.1
  obtain ⟨v1, v2, rfl⟩ : ∃ a b, vs = [a, b] := by
    rcases vs with _ | ⟨a, _ | ⟨b, _ | ⟨d, l⟩⟩⟩ <;> simp at hl
    exact ⟨a, b, rfl⟩
  have h1 : Rel1 σ v1 (.lst .any 1 (rowsW l)) := hr.2 0 v1 _ rfl rfl
  have h2 : Rel1 σ v2 (.str sep) := hr.2 1 v2 _ rfl rfl
  cases h2
  obtain ⟨A, cap, b, o, news, rfl, hcap, hA, _, hnl, hrel, hcell⟩ := lst_cells h1
  rw [rowsW_len] at hcap hA hnl
  have := hA hne
  subst this
  rw [rowsW_flat] at hrel
  have hcells : ∀ (j : Nat) x, l[j]? = some x → w.cell? ⟨b, o + j, none⟩ = some (.string x) := fun j x hx => by
    have hj : j < news.length := by have := (List.getElem?_eq_some_iff.1 hx).1; omega
    have h3 := List.getElem?_eq_getElem hj
    have h4 : Rel1 σ news[j] (.str x) := hrel.2 j _ _ h3 (by simp [hx])
    generalize news[j] = u at h3 h4
    cases h4
    exact hh _ _ _ (hcell j _ h3)
  obtain ⟨x, hx⟩ : ∃ x, l[0]? = some x := ⟨_, List.getElem?_eq_getElem hne⟩
  have hbk := World.block_lt_of_cell? w _ (hcells 0 x hx)
  rw [rowsW_len]
  refine (Tryd.strings_Join b o cap l sep w hcells hbk hN hcap hlen).mono ?_
  rintro e w' ⟨rfl, hb⟩
  exact ⟨σ, _, rfl, Ext.refl _ _, fun b q v hv => (hb.cell (p := ⟨b, q, none⟩) (World.block_lt_of_cell? w _ (hh _ _ _ hv))).trans (hh _ _ _ hv), hb, .str _⟩
theorem letter_a (c : Nat) : AC Tryd.prog 27 [.int .u8 c] (.bool (letN c)) := by
  refine AC.enter Tryd.func27 a_scalar_letter_ok a_scalar_letter_cb (by rfl) fun E hE => ?_
  show AK _ _ _ [.c b_scalar_letter] _ _
  rw [b_scalar_letter]
  (repeat (first | apply AK.seq | apply AK.block | apply AK.blk | apply AK.skip | (refine AK.reg follows_any (rs := []) (by rfl) ?_ ?_; first | exact trivial | exact ⟨trivial, trivial⟩ | exact ⟨trivial, trivial, trivial⟩ | exact ⟨trivial, trivial, trivial, trivial⟩ | fail) | fail))
  refine AK.reg follows_any (rs := []) (by rfl) ?_ ?_
  · ((repeat' apply And.intro) <;> first | trivial | omega | (simp only [List.length_nil, List.length_cons]; omega) | (intro hgd; first | (rw [hgd]; rfl) | (refine ⟨?_, by repeat (first | exact trivial | refine ⟨hgd, ?_⟩)⟩; (repeat' apply And.intro) <;> first | trivial | omega | (intro h2; rw [hgd, h2]; rfl) | skip)) | skip)
  (repeat (first | apply AK.seq | apply AK.block | apply AK.blk | apply AK.skip | (refine AK.reg follows_any (rs := []) (by rfl) ?_ ?_; first | exact trivial | exact ⟨trivial, trivial⟩ | exact ⟨trivial, trivial, trivial⟩ | exact ⟨trivial, trivial, trivial, trivial⟩ | fail) | fail))
  refine AK.ret ⟨_, rfl, ?_⟩
  refine congrArg AV.bool ?_
  rw [Bool.eq_iff_iff]
  simp only [letN, Bool.or_eq_true, Bool.and_eq_true, decide_eq_true_eq]
  omega
theorem digit_a (c : Nat) : AC Tryd.prog 28 [.int .u8 c] (.bool (decide (48 ≤ c) && decide (c ≤ 57))) := by
  refine AC.enter Tryd.func28 a_scalar_digit_ok a_scalar_digit_cb (by rfl) fun E hE => ?_
  show AK _ _ _ [.c b_scalar_digit] _ _
  rw [b_scalar_digit]
  (repeat (first | apply AK.seq | apply AK.block | apply AK.blk | apply AK.skip | (refine AK.reg follows_any (rs := []) (by rfl) ?_ ?_; first | exact trivial | exact ⟨trivial, trivial⟩ | exact ⟨trivial, trivial, trivial⟩ | exact ⟨trivial, trivial, trivial, trivial⟩ | fail) | fail))
  refine AK.reg follows_any (rs := []) (by rfl) ?_ ?_
  · ((repeat' apply And.intro) <;> first | trivial | omega | (simp only [List.length_nil, List.length_cons]; omega) | (intro hgd; first | (rw [hgd]; rfl) | (refine ⟨?_, by repeat (first | exact trivial | refine ⟨hgd, ?_⟩)⟩; (repeat' apply And.intro) <;> first | trivial | omega | (intro h2; rw [hgd, h2]; rfl) | skip)) | skip)
  (repeat (first | apply AK.seq | apply AK.block | apply AK.blk | apply AK.skip | (refine AK.reg follows_any (rs := []) (by rfl) ?_ ?_; first | exact trivial | exact ⟨trivial, trivial⟩ | exact ⟨trivial, trivial, trivial⟩ | exact ⟨trivial, trivial, trivial, trivial⟩ | fail) | fail))
  refine AK.ret ⟨_, rfl, ?_⟩
  refine congrArg AV.bool ?_
  rw [Bool.eq_iff_iff]
  simp only [Bool.and_eq_true, decide_eq_true_eq]
  omega
end Go.Proofs.YtamecdecpmklmaaDoor
