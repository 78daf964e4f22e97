/-
  Words: report.Place, walked.
-/
import Derived.Test.YtamecdecpmklmaaDoorRp6
namespace Go.Proofs.YtamecdecpmklmaaDoor
set_option linter.unusedSimpArgs false
set_option linter.unusedVariables false
open Go.RowKit

def wordsB (l : List ByteArray) : List (List UInt8) := (l.map wordB).map (·.data.toList)
theorem join_snoc (xs : List (List UInt8)) (x sep : List UInt8) (h : xs ≠ []) : Lib.join (xs ++ [x]) sep = Lib.join xs sep ++ (sep ++ x) := by
  cases xs with
  | nil => exact absurd rfl h
  | cons y r => rw [List.cons_append, Lib.join_cons, Lib.join_cons, Lib.joinTail, Lib.joinTail]; simp
theorem ba_list (a b : ByteArray) : (a ++ b).data.toList = a.data.toList ++ b.data.toList := by
  rw [ByteArray.data_append, Array.toList_append]
theorem take_map_snoc {l : List ByteArray} {k : Nat} {s : ByteArray} (h : l[k]? = some s) : wordsB (l.take (k + 1)) = wordsB (l.take k) ++ [(wordB s).data.toList] := by
  rw [List.take_add_one, h]
  simp [wordsB]
theorem placeP_join {l : List ByteArray} : ∀ {k : Nat}, k ≤ l.length → (placeP l k).data.toList = Lib.join (wordsB (l.take k)) [46]
  | 0, _ => rfl
  | k + 1, h => by
    have ih := placeP_join (l := l) (k := k) (by omega)
    obtain ⟨s, hg⟩ : ∃ x, l[k]? = some x := ⟨_, List.getElem?_eq_getElem (by omega)⟩
    have hd : l.getD k ⟨#[]⟩ = s := by rw [List.getD_eq_getElem?_getD, hg]; rfl
    rw [take_map_snoc hg, placeP, hd, ba_list]
    by_cases h0 : 0 < k
    · have hne : wordsB (l.take k) ≠ [] := fun e => by
        have := congrArg List.length e
        simp only [wordsB, List.length_map, List.length_take, List.length_nil] at this
        omega
      rw [if_pos h0, ba_list, join_snoc _ _ _ hne, ih, List.append_assoc]
    · have : k = 0 := by omega
      subst this
      rw [if_neg h0, ih]
      show _ = Lib.join [(wordB s).data.toList] [46]
      rw [Lib.join_one]
      rfl
theorem place_a (hq : QuoteOk) (l : List ByteArray) (hl : l.length ≤ 1000) (hs : ∀ s ∈ l, s.size ≤ 1000) : AC Tryd.prog 7 [.lst .any 1 (rowsW l)] (.str (placeB l)) := by
  refine AC.enter Tryd.func7 a_report_Place_ok a_report_Place_cb (by rfl) fun E hE => ?_
  show AK _ _ _ [.c b_report_Place] _ _
  rw [b_report_Place]
  (repeat (first | apply AK.seq | apply AK.block | apply AK.blk | apply AK.skip | (refine AK.reg follows_any (rs := []) (by rfl) ?_ ?_; first | exact trivial | exact ⟨trivial, trivial⟩ | exact ⟨trivial, trivial, trivial⟩ | exact ⟨trivial, trivial, trivial, trivial⟩ | fail) | fail))
  refine AK.cond (by rfl) (fun hb => ?_) (fun hb => ?_)
  · have h0 : l.length = 0 := by simpa [rowsW_len] using hb
    (repeat (first | apply AK.seq | apply AK.block | apply AK.blk | apply AK.skip | (refine AK.reg follows_any (rs := []) (by rfl) ?_ ?_; first | exact trivial | exact ⟨trivial, trivial⟩ | exact ⟨trivial, trivial, trivial⟩ | exact ⟨trivial, trivial, trivial, trivial⟩ | fail) | fail))
    refine AK.ret ⟨_, rfl, ?_⟩
    rw [placeB, if_pos h0]
    rfl
  have h0 : ¬ l.length = 0 := by simpa [rowsW_len] using hb
  (repeat (first | apply AK.seq | apply AK.block | apply AK.blk | apply AK.skip | (refine AK.reg follows_any (rs := []) (by rfl) ?_ ?_; first | exact trivial | exact ⟨trivial, trivial⟩ | exact ⟨trivial, trivial, trivial⟩ | exact ⟨trivial, trivial, trivial, trivial⟩ | fail) | fail))
  refine AK.loopI (fun i : Nat × (Nat → Nat) => (frOf [(3, .lst (.own 20 (i.2 20)) 1 (rowsW ((l.take i.1).map wordB))), (9, .lst .any 1 (rowsW l)), (10, .int .i64 (rowsW l).length), (11, .int .i64 i.1)], ⟨boxOf [], i.2⟩))
    (fun i => i.1 ≤ l.length) (fun i => l.length - i.1) (0, fun _ => 0) (Nat.zero_le _) (Weak.intro ⟨⟨_, rfl, .one (.own _ _ _ _)⟩, ⟨_, rfl, .refl _⟩, ⟨_, rfl, .refl _⟩, ⟨_, rfl, .refl _⟩, trivial⟩ trivial rfl rfl) fun ⟨k, r⟩ hk => ?_
  dsimp only at hk
  (repeat (first | apply AK.seq | apply AK.block | apply AK.blk | apply AK.skip | (refine AK.reg follows_any (rs := []) (by rfl) ?_ ?_; first | exact trivial | exact ⟨trivial, trivial⟩ | exact ⟨trivial, trivial, trivial⟩ | exact ⟨trivial, trivial, trivial, trivial⟩ | fail) | fail))
  refine AK.cond (by rfl) (fun hb => ?_) (fun hb => ?_)
  · have hlt : k < l.length := by simpa [rowsW_len] using hb
    obtain ⟨s, hg⟩ : ∃ x, l[k]? = some x := ⟨_, List.getElem?_eq_getElem hlt⟩
    have hsz := hs s (List.mem_of_getElem? hg)
    have hst : (l.take (k + 1)).map wordB = (l.take k).map wordB ++ [wordB s] := by rw [List.take_add_one, hg]; simp
    have hlen : (rowsW ((l.take k).map wordB)).length = k := by rw [rowsW_len, List.length_map, List.length_take]; omega
    (repeat (first | apply AK.seq | apply AK.block | apply AK.blk | apply AK.skip | (refine AK.reg follows_any (rs := []) (by rfl) ?_ ?_; first | exact trivial | exact ⟨trivial, trivial⟩ | exact ⟨trivial, trivial, trivial⟩ | exact ⟨trivial, trivial, trivial, trivial⟩ | fail) | fail))
    refine AK.reg follows_any (rs := [.c [.str s]]) (by rfl) ?_ ?_
    · ((repeat' apply And.intro) <;> first | trivial | omega | (simp only [List.length_nil, List.length_cons]; omega) | (intro hgd; first | (rw [hgd]; rfl) | (refine ⟨?_, by repeat (first | exact trivial | refine ⟨hgd, ?_⟩)⟩; (repeat' apply And.intro) <;> first | trivial | omega | (intro h2; rw [hgd, h2]; rfl) | skip)) | skip)
      · exact rowsW_at hg
    (repeat (first | apply AK.seq | apply AK.block | apply AK.blk | apply AK.skip | (refine AK.reg follows_any (rs := []) (by rfl) ?_ ?_; first | exact trivial | exact ⟨trivial, trivial⟩ | exact ⟨trivial, trivial, trivial⟩ | exact ⟨trivial, trivial, trivial, trivial⟩ | fail) | fail))
    refine AK.reg follows_any (rs := [.v (.agg [.int .i64 3, .bool false, .int .i64 0, .str s, .lst .any 6 [], .lst .any 7 []]), .v (.str (wordB s))]) (by rfl) ?_ ?_
    · ((repeat' apply And.intro) <;> first | trivial | omega | (simp only [List.length_nil, List.length_cons]; omega) | (intro hgd; first | (rw [hgd]; rfl) | (refine ⟨?_, by repeat (first | exact trivial | refine ⟨hgd, ?_⟩)⟩; (repeat' apply And.intro) <;> first | trivial | omega | (intro h2; rw [hgd, h2]; rfl) | skip)) | skip)
      · exact str_a s
      · exact print_a hq s (by omega)
      all_goals simp only [hlen, List.length_nil, List.length_cons]
      all_goals omega
    (repeat (first | apply AK.seq | apply AK.block | apply AK.blk | apply AK.skip | (refine AK.reg follows_any (rs := []) (by rfl) ?_ ?_; first | exact trivial | exact ⟨trivial, trivial⟩ | exact ⟨trivial, trivial, trivial⟩ | exact ⟨trivial, trivial, trivial, trivial⟩ | fail) | fail))
    exact AK.lp ⟨(k + 1, _), by dsimp only; omega, Weak.intro ⟨⟨_, rfl, .of_eq (congrArg (AV.lst _ 1) (by rw [hst, rowsW, rowsW, List.map_append]; rfl))⟩, ⟨_, rfl, .refl _⟩, ⟨_, rfl, .refl _⟩, ⟨_, rfl, .of_eq (congrArg _ (by first | omega | (rw [wrap_in (by omega) (by omega)]; omega)))⟩, trivial⟩ trivial rfl rfl, by dsimp only; omega⟩
  · have hlt : k = l.length := by have : l.length ≤ k := by simpa [rowsW_len] using hb
                                  omega
    subst hlt
    rw [List.take_length]
    have hp := placeP_join (l := l) (k := l.length) (Nat.le_refl _)
    rw [List.take_length] at hp
    have hpz : (placeP l l.length).data.toList.length ≤ 2003 * l.length := placeP_size hs l.length
    have hJ := join_a (l.map wordB) ⟨#[46]⟩ (by rw [List.length_map]; omega) (by rw [List.length_map]; omega) (by
      show (Lib.join (wordsB l) [46]).length ≤ _
      rw [← hp]; omega)
    rw [show Lib.join ((l.map wordB).map (·.data.toList)) (ByteArray.mk #[46]).data.toList = (placeP l l.length).data.toList from hp.symm] at hJ
    refine AK.exit rfl ?_
    (repeat (first | apply AK.seq | apply AK.block | apply AK.blk | apply AK.skip | (refine AK.reg follows_any (rs := []) (by rfl) ?_ ?_; first | exact trivial | exact ⟨trivial, trivial⟩ | exact ⟨trivial, trivial, trivial⟩ | exact ⟨trivial, trivial, trivial, trivial⟩ | fail) | fail))
    refine AK.reg follows_any (rs := [.v (.str ⟨(placeP l l.length).data.toList.toArray⟩)]) (by rfl) ?_ ?_
    · ((repeat' apply And.intro) <;> first | trivial | omega | (simp only [List.length_nil, List.length_cons]; omega) | (intro hgd; first | (rw [hgd]; rfl) | (refine ⟨?_, by repeat (first | exact trivial | refine ⟨hgd, ?_⟩)⟩; (repeat' apply And.intro) <;> first | trivial | omega | (intro h2; rw [hgd, h2]; rfl) | skip)) | skip)
    (repeat (first | apply AK.seq | apply AK.block | apply AK.blk | apply AK.skip | (refine AK.reg follows_any (rs := []) (by rfl) ?_ ?_; first | exact trivial | exact ⟨trivial, trivial⟩ | exact ⟨trivial, trivial, trivial⟩ | exact ⟨trivial, trivial, trivial, trivial⟩ | fail) | fail))
    refine AK.ret ⟨_, rfl, ?_⟩
    rw [placeB, if_neg h0]
    rfl
end Go.Proofs.YtamecdecpmklmaaDoor
