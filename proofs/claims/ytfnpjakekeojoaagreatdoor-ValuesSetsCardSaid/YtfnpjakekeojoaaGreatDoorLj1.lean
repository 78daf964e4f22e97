/-
  A path that is joined is parted as it was: plain laws.
-/
import Derived.Test.YtfnpjakekeojoaaGreatDoorLwA
namespace Go.Proofs.YtfnpjakekeojoaaGreatDoor
set_option linter.unusedSimpArgs false
set_option linter.unusedVariables false
open Go.RowKit

theorem ba_ext {a b : ByteArray} (h : a.data.toList = b.data.toList) : a = b := by
  cases a; cases b
  congr 1
  exact Array.toList_inj.1 h
theorem head_ne {s t : ByteArray} {c d : UInt8} {l r : List UInt8} (hs : s.data.toList = c :: l) (ht : t.data.toList = d :: r) (h : c ≠ d) : s ≠ t := fun e => by
  rw [e, ht] at hs
  injection hs with h1 _
  exact h h1.symm
theorem hasB_head {s : ByteArray} {c d : UInt8} {l : List UInt8} (h : s.data.toList = c :: l) : hasB s ⟨#[d]⟩ = decide (c = d) := by
  have hsz : 1 ≤ s.size := by have : s.data.toList.length = s.size := rfl
                              rw [h] at this; simp at this; omega
  have h0 : s[0] = c := by have := byte_drop (s := s) (k := 0) hsz; rw [List.drop_zero, h] at this; injection this with h _; exact h.symm
  rw [hasB, show (ByteArray.mk #[d]).size = 1 from rfl, show s.extract 0 1 = ⟨#[s[0]]⟩ from ext_one hsz, h0, decide_eq_true hsz, Bool.true_and]
  by_cases hc : c = d
  · subst hc; simp
  · rw [decide_eq_false hc]
    simp [hc]
/-! joined -/
/-- steps with dots between -/
def joinL : List ByteArray → List UInt8
  | [] => []
  | s :: l => s.data.toList ++ l.flatMap fun t => 46 :: t.data.toList
def joinB (l : List ByteArray) : ByteArray := ⟨(joinL l).toArray⟩
theorem word_bytes {s : ByteArray} (h : wdB s = true) : ∀ c ∈ s.data.toList, okW c = true := by
  simp only [wdB, Bool.and_eq_true] at h
  exact List.all_eq_true.1 h.1
theorem okW_ne {c d : UInt8} (h : okW c = true) (hd : okW d = false) : c ≠ d := fun e => by rw [e, hd] at h; cases h
theorem join_bytes : ∀ {l : List ByteArray}, (∀ s ∈ l, wdB s = true) → ∀ c ∈ joinL l, okW c = true ∨ c = 46
  | [], _, c, hc => by cases hc
  | s :: l, h, c, hc => by
    rw [joinL] at hc
    rcases List.mem_append.1 hc with hc | hc
    · exact .inl (word_bytes (h s (by simp)) c hc)
    · obtain ⟨t, ht, hc⟩ := List.mem_flatMap.1 hc
      rcases List.mem_cons.1 hc with rfl | hc
      · exact .inr rfl
      · exact .inl (word_bytes (h t (by simp [ht])) c hc)
theorem ix_append {l r : List UInt8} {c : UInt8} (h : c ∉ l) : Lib.indexByte (l ++ c :: r) c = l.length := by
  induction l with
  | nil => simp [Lib.indexByte]
  | cons a l ih =>
    simp only [List.mem_cons, not_or] at h
    have := ih h.2
    rw [List.cons_append, Lib.indexByte, if_neg (by simpa using Ne.symm h.1), this, if_neg (by simp)]
    simp
theorem cut_join {p w : ByteArray} (h : 61 ∉ p.data.toList) : cutB (p ++ ⟨#[61]⟩ ++ w) 61 = (p, w, true) := by
  have hl : (p ++ ⟨#[61]⟩ ++ w).data.toList = p.data.toList ++ 61 :: w.data.toList := by simp
  have hi := ix_append (r := w.data.toList) h
  have hz : p.data.toList.length = p.size := rfl
  rw [cutB, hl, hi, if_neg (by simp), hz]
  congr 1
  · refine ba_ext ?_
    rw [Lib.extract_eq]
    show (((p ++ ⟨#[61]⟩ ++ w).data.toList.drop 0).take _) = _
    rw [hl]
    simp
  · congr 1
    refine ba_ext ?_
    rw [ext_end]
    show (p ++ ⟨#[61]⟩ ++ w).data.toList.drop _ = _
    rw [hl]
    have e : p.data.toList ++ 61 :: w.data.toList = (p.data.toList ++ [61]) ++ w.data.toList := by simp
    rw [e, List.drop_append_of_le_length (by simp [hz]), List.drop_of_length_le (by simp [hz])]
    rfl
theorem join_cons (t u : ByteArray) (l : List ByteArray) : joinL (t :: u :: l) = t.data.toList ++ 46 :: joinL (u :: l) := by
  rw [joinL, joinL, List.flatMap_cons]; rfl
theorem no_dot {s : ByteArray} (h : wdB s = true) : 46 ∉ s.data.toList := fun hm => by
  have := word_bytes h 46 hm
  exact absurd this (by decide)
theorem ix_none {l : List UInt8} {c : UInt8} (h : c ∉ l) : Lib.indexByte l c = -1 := by
  rcases ix_cases l c with ⟨h1, _⟩ | ⟨i, _, _, h3, _⟩
  · exact h1
  · exact absurd (List.mem_of_getElem? h3) h
theorem split_join : ∀ (l : List ByteArray) (s : ByteArray), l ≠ [] → (∀ t ∈ l, wdB t = true) → s.data.toList = joinL l → Lib.countB s ⟨#[46]⟩ + 1 = l.length ∧ Lib.splitB ⟨#[46]⟩ 0 (l.length - 1) s = l
  | [], _, h, _, _ => absurd rfl h
  | [t], s, _, hw, hs => by
    have e : s = t := ba_ext (by rw [hs]; simp [joinL])
    subst e
    have hi : Lib.indexB s ⟨#[46]⟩ = -1 := by
      show Lib.index s.data.toList [46] = -1
      rw [Lib.index_one, ix_none (no_dot (hw s (by simp)))]
    exact ⟨by rw [Lib.countB_miss _ _ hi]; rfl, rfl⟩
  | t :: u :: l, s, _, hw, hs => by
    rw [join_cons] at hs
    have ht := no_dot (hw t (by simp))
    have hz : t.data.toList.length = t.size := rfl
    have hi : Lib.indexB s ⟨#[46]⟩ = (t.size : Nat) := by
      show Lib.index s.data.toList [46] = _
      rw [Lib.index_one, hs, ix_append ht, hz]
    have hx : (s.extract (t.size + (ByteArray.mk #[46]).size) s.size).data.toList = joinL (u :: l) := by
      rw [ext_end]
      show s.data.toList.drop (t.size + 1) = _
      have e : t.data.toList ++ 46 :: joinL (u :: l) = (t.data.toList ++ [46]) ++ joinL (u :: l) := by simp
      rw [hs, e, List.drop_append_of_le_length (by simp [hz]), List.drop_of_length_le (by simp [hz])]
      rfl
    have h0 : s.extract 0 (t.size + 0) = t := by
      refine ba_ext ?_
      rw [Lib.extract_eq]
      show ((s.data.toList.drop 0).take _) = _
      rw [hs]
      simp [hz]
    obtain ⟨c1, c2⟩ := split_join (u :: l) (s.extract (t.size + (ByteArray.mk #[46]).size) s.size) (by simp) (fun x hx => hw x (by simp [List.mem_cons.1 hx])) hx
    refine ⟨?_, ?_⟩
    · rw [Lib.countB_hit _ _ _ (by decide) hi]
      simp only [List.length_cons] at c1 ⊢
      omega
    · simp only [List.length_cons, Nat.add_sub_cancel] at c2 ⊢
      rw [Lib.splitB_hit _ _ _ _ _ hi, h0, c2]
theorem path_join {l : List ByteArray} (hne : l ≠ []) (hl : l.length < 16) (hw : ∀ t ∈ l, wdB t = true) : pathP (joinB l) = (l, 0) := by
  obtain ⟨c1, c2⟩ := split_join l (joinB l) hne hw rfl
  have hs : splB (joinB l) = l := by
    rw [splB, show Lib.countB (joinB l) ⟨#[46]⟩ = l.length - 1 by omega, c2]
  rw [pathP, hs, if_neg (by omega), if_pos (List.all_eq_true.2 hw)]
theorem join_no61 {l : List ByteArray} (hw : ∀ t ∈ l, wdB t = true) : 61 ∉ (joinB l).data.toList := fun hm => by
  rcases join_bytes hw 61 hm with h | h
  · exact absurd h (by decide)
  · exact absurd h (by decide)
/-- a path, joined step by step -/
theorem join_snoc (l : List ByteArray) (t : ByteArray) (h : l ≠ []) : joinL (l ++ [t]) = joinL l ++ 46 :: t.data.toList := by
  cases l with
  | nil => exact absurd rfl h
  | cons s l => rw [List.cons_append, joinL, joinL, List.flatMap_append]; simp
theorem joinB_snoc (l : List ByteArray) (t : ByteArray) (h : l ≠ []) : joinB (l ++ [t]) = joinB l ++ ⟨#[46]⟩ ++ t := ba_ext (by
  show joinL (l ++ [t]) = _
  rw [join_snoc l t h]
  simp [joinB])
theorem joinB_one (t : ByteArray) : joinB [t] = ⟨#[]⟩ ++ t := ba_ext (by
  show joinL [t] = _
  simp [joinL])
theorem joinL_len : ∀ l : List ByteArray, (∀ t ∈ l, t.size ≤ 256) → (joinL l).length ≤ 257 * l.length
  | [], _ => by simp [joinL]
  | [s], h => by
    have := h s (by simp)
    have hz : s.data.toList.length = s.size := rfl
    simp only [joinL, List.flatMap_nil, List.append_nil, List.length_cons, List.length_nil]
    omega
  | s :: u :: l, h => by
    have := h s (by simp)
    have hz : s.data.toList.length = s.size := rfl
    have ih := joinL_len (u :: l) fun t ht => h t (by simp [List.mem_cons.1 ht])
    rw [join_cons, List.length_append, List.length_cons]
    simp only [List.length_cons] at ih ⊢
    omega
/-- a set of a path and a word -/
theorem setP_join (v : V) {l : List ByteArray} (hne : l ≠ []) (hl : l.length < 16) (hw : ∀ t ∈ l, wdB t = true) (w : ByteArray) (x : V) (hx : wordP w = (x, 0)) :
    setP v (joinB l ++ ⟨#[61]⟩ ++ w) = if (overN 100 v (nest x l)).checkC ≠ 0 then (V.null, (overN 100 v (nest x l)).checkC) else (overN 100 v (nest x l), 0) := by
  unfold setP
  rw [cut_join (join_no61 hw)]
  dsimp only
  rw [path_join hne hl hw, hx, if_neg (by decide)]
  dsimp only
  rw [if_neg (by decide), if_neg (by decide)]
theorem good_key {v : V} (h : v.good) {p : ByteArray × V} (hp : p ∈ v.m) : keyB p.1 = true := ((goodM_iff _).1 (v.good_eq.1 h).2.2.2.1 p hp).1
end Go.Proofs.YtfnpjakekeojoaaGreatDoor
