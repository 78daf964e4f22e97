/-
  The law's function RecordOwners, walked: of any two names and numbers it answers true.
-/
import Derived.Test.YtpcddcfpbohogaaDoorOw2
namespace Go.Proofs.YtpcddcfpbohogaaDoor
set_option linter.unusedSimpArgs false
set_option linter.unusedVariables false
open Go.RowKit

theorem word_hid : wordOkB hidB = true := by decide +kernel
theorem word_def : wordOkB defB = true := by decide +kernel
theorem ba_get {s : ByteArray} {k : Nat} (h : k < s.size) : s.data.toList[k]? = some s[k] := by
  rw [List.getElem?_eq_getElem (by simpa using h)]; rfl
theorem idB_at (a : ByteArray) (n : Nat) {k : Nat} (h : k < (idB a n).size) : (∃ h' : k < a.size, (idB a n)[k] = a[k]) ∨ (a.size ≤ k ∧ ((idB a n)[k] = 46 ∨ (idB a n)[k] = 118 ∨ (idB a n)[k] ∈ Lib.decDigits n)) := by
  have e := ba_get h
  rw [idB_list, nameL, List.append_assoc] at e
  by_cases hk : k < a.size
  · rw [List.getElem?_append_left (by simpa using hk), ba_get hk] at e
    exact .inl ⟨hk, (Option.some.inj e).symm⟩
  · rw [List.getElem?_append_right (by simpa using Nat.le_of_not_lt hk)] at e
    have hm := List.mem_of_getElem? e
    simp only [List.mem_append, List.mem_cons, List.not_mem_nil, or_false] at hm
    refine .inr ⟨by omega, ?_⟩
    rcases hm with (hm | hm) | hm
    · exact .inl hm
    · exact .inr (.inl hm)
    · exact .inr (.inr hm)
theorem idB_word (a : ByteArray) (n : Nat) (ha : nameB a = true) (hn : n ≤ 1000000) : wordOkB (idB a n) = true := by
  simp only [nameB, Bool.and_eq_true, decide_eq_true_eq] at ha
  obtain ⟨h1, h2, h3⟩ := ha
  have hd := dec_len 6 n (by omega)
  have hsz := idB_size a n
  simp only [bareB, Bool.and_eq_true, Bool.not_eq_true', decide_eq_true_eq] at h2
  obtain ⟨hw, hall⟩ := h2
  have h0 : 0 < a.size := by
    rcases Nat.eq_zero_or_pos a.size with h | h
    · simp [bareWord, h] at hw
    · exact h
  have hsl := of_decide_eq_true h1
  have hcase : ∀ k, (h : k < (idB a n).size) → bareAt k (idB a n)[k].toNat = true ∧ (idB a n)[k].toNat ≠ 47 := by
    intro k h
    rcases idB_at a n h with ⟨h', e⟩ | ⟨hk, e⟩
    · rw [e]; exact ⟨hall k h', hsl k h'⟩
    · have hk0 : decide (k = 0) = false := decide_eq_false (by omega)
      rcases e with e | e | e
      · rw [e]; exact ⟨by simp [bareAt, hk0]; decide, by decide⟩
      · rw [e]; exact ⟨by simp [bareAt]; exact .inl (by decide), by decide⟩
      · have hdd := dec_digit n _ e
        refine ⟨?_, by omega⟩
        simp only [bareAt, hk0, moreN, Bool.not_false, Bool.true_and, Bool.or_eq_true, Bool.and_eq_true, decide_eq_true_eq]
        omega
  have hdot : (46 : UInt8) ∈ (idB a n).data.toList := by rw [idB_list, nameL]; simp
  have hbw : bareWord (idB a n) = false := by
    have hne : ∀ w : ByteArray, (46 : UInt8) ∉ w.data.toList → idB a n ≠ w := fun w hw e => hw (e ▸ hdot)
    simp only [bareWord, Bool.or_eq_false_iff, decide_eq_false_iff_not]
    exact ⟨⟨⟨by omega, hne _ (by decide)⟩, hne _ (by decide)⟩, hne _ (by decide)⟩
  simp only [wordOkB, noSl, bareB, hbw, Bool.and_eq_true, Bool.not_false, decide_eq_true_eq, true_and]
  exact ⟨fun k h => (hcase k h).2, fun k h => (hcase k h).1, by omega⟩
theorem idB_inj (a b : ByteArray) (n m : Nat) : idB a n = idB b m ↔ a = b ∧ n = m := by
  constructor
  · intro h
    have h1 := congrArg (fun x : ByteArray => x.data.toList) h
    simp only [idB_list] at h1
    obtain ⟨h2, h3⟩ := nameL_inj h1
    refine ⟨?_, h3⟩
    cases a; cases b
    congr 1
    exact Array.toList_inj.1 h2
  · rintro ⟨rfl, rfl⟩; rfl
theorem recordOwners_a (a b : ByteArray) (n m : Int) (ha : a.size ≤ 140737488355328) (hb : b.size ≤ 140737488355328) (hn : 0 ≤ n) (hm : 0 ≤ m) :
    AC Tryd.prog 3 [.str a, .str b, .int .u32 n, .int .u32 m] (.bool true) := by
  have haw := awake_a
  have hA := refName_a a ha
  have hB := refName_a b hb
  refine AC.enter Tryd.func3 a_law17_RecordOwners_ok a_law17_RecordOwners_cb (by rfl) fun E hE => ?_
  show AK _ _ _ [.c b_law17_RecordOwners] _ _
  rw [b_law17_RecordOwners]
  (repeat (first | apply AK.seq | apply AK.block | apply AK.blk | apply AK.skip | (refine AK.reg follows_any (rs := []) (by rfl) ?_ ?_; first | exact trivial | exact ⟨trivial, trivial⟩ | exact ⟨trivial, trivial, trivial⟩ | exact ⟨trivial, trivial, trivial, trivial⟩ | fail) | fail))
  refine AK.reg follows_any (rs := [.v (.bool (nameB a)), .v (.bool (nameB b))]) (by rfl) ?_ ?_
  · ((repeat' apply And.intro) <;> first | trivial | omega | (simp only [List.length_nil, List.length_cons]; omega) | (intro hgd; first | (rw [hgd]; rfl) | (refine ⟨?_, by repeat (first | exact trivial | refine ⟨hgd, ?_⟩)⟩; (repeat' apply And.intro) <;> first | trivial | omega | (intro h2; rw [hgd, h2]; rfl) | skip)) | skip)
  refine AK.cond (by rfl) (fun hb => ?_) (fun hb => ?_)
  · (repeat (first | apply AK.seq | apply AK.block | apply AK.blk | apply AK.skip | (refine AK.reg follows_any (rs := []) (by rfl) ?_ ?_; first | exact trivial | exact ⟨trivial, trivial⟩ | exact ⟨trivial, trivial, trivial⟩ | exact ⟨trivial, trivial, trivial, trivial⟩ | fail) | fail))
    refine AK.reg follows_any (rs := [.v (.bool true)]) (by rfl) ?_ ?_
    · ((repeat' apply And.intro) <;> first | trivial | omega | (simp only [List.length_nil, List.length_cons]; omega) | (intro hgd; first | (rw [hgd]; rfl) | (refine ⟨?_, by repeat (first | exact trivial | refine ⟨hgd, ?_⟩)⟩; (repeat' apply And.intro) <;> first | trivial | omega | (intro h2; rw [hgd, h2]; rfl) | skip)) | skip)
    (repeat (first | apply AK.seq | apply AK.block | apply AK.blk | apply AK.skip | (refine AK.reg follows_any (rs := []) (by rfl) ?_ ?_; first | exact trivial | exact ⟨trivial, trivial⟩ | exact ⟨trivial, trivial, trivial⟩ | exact ⟨trivial, trivial, trivial, trivial⟩ | fail) | fail))
    refine AK.ret ⟨_, rfl, ?_⟩
    rfl
  simp only [Bool.or_eq_false_iff, Bool.not_eq_false', decide_eq_false_iff_not] at hb
  obtain ⟨⟨⟨⟨⟨na, nb⟩, n1⟩, n2⟩, m1⟩, m2⟩ := hb
  obtain ⟨n, rfl⟩ : ∃ k : Nat, n = k := ⟨n.toNat, by omega⟩
  obtain ⟨m, rfl⟩ : ∃ k : Nat, m = k := ⟨m.toNat, by omega⟩
  have hI := id_a a n ha (by omega)
  have hJ := id_a b m (by assumption) (by omega)
  have hO := owner_a a n na (by omega) (by omega)
  have hR := refRight_a hidB defB (idB a n) (by decide) (by decide) (by rw [idB_size]; have := dec_len 6 n (by omega); have : a.size ≤ 48 := (by simp only [nameB, Bool.and_eq_true, decide_eq_true_eq] at na; exact na.2.2); omega)
  have hN := name_a a ha
  rw [na] at hN
  rw [word_hid, word_def, idB_word a n na (by omega)] at hR
  have w1 : IntKind.i64.wrap (n : Int) = n := wrap_in (by omega) (by omega)
  have w2 : IntKind.i64.wrap (m : Int) = m := wrap_in (by omega) (by omega)
  (repeat (first | apply AK.seq | apply AK.block | apply AK.blk | apply AK.skip | (refine AK.reg follows_any (rs := []) (by rfl) ?_ ?_; first | exact trivial | exact ⟨trivial, trivial⟩ | exact ⟨trivial, trivial, trivial⟩ | exact ⟨trivial, trivial, trivial, trivial⟩ | fail) | fail))
  refine AK.reg follows_any (rs := [.v (.agg [.str hidB, .str defB, .str (idB a n)]), .v (.agg [.str hidB, .str defB, .str (idB b m)])]) (by rfl) ?_ ?_
  · ((repeat' apply And.intro) <;> first | trivial | omega | (simp only [List.length_nil, List.length_cons]; omega) | (intro hgd; first | (rw [hgd]; rfl) | (refine ⟨?_, by repeat (first | exact trivial | refine ⟨hgd, ?_⟩)⟩; (repeat' apply And.intro) <;> first | trivial | omega | (intro h2; rw [hgd, h2]; rfl) | skip)) | skip)
    · rw [w1]; exact hI
    · rw [w2]; exact hJ
  (repeat (first | apply AK.seq | apply AK.block | apply AK.blk | apply AK.skip | (refine AK.reg follows_any (rs := []) (by rfl) ?_ ?_; first | exact trivial | exact ⟨trivial, trivial⟩ | exact ⟨trivial, trivial, trivial⟩ | exact ⟨trivial, trivial, trivial, trivial⟩ | fail) | fail))
  refine AK.reg follows_any (rs := [.v (.tup [.str a, .int .i64 n, .bool true])]) (by rfl) ?_ ?_
  · ((repeat' apply And.intro) <;> first | trivial | omega | (simp only [List.length_nil, List.length_cons]; omega) | (intro hgd; first | (rw [hgd]; rfl) | (refine ⟨?_, by repeat (first | exact trivial | refine ⟨hgd, ?_⟩)⟩; (repeat' apply And.intro) <;> first | trivial | omega | (intro h2; rw [hgd, h2]; rfl) | skip)) | skip)
  (repeat (first | apply AK.seq | apply AK.block | apply AK.blk | apply AK.skip | (refine AK.reg follows_any (rs := []) (by rfl) ?_ ?_; first | exact trivial | exact ⟨trivial, trivial⟩ | exact ⟨trivial, trivial, trivial⟩ | exact ⟨trivial, trivial, trivial, trivial⟩ | fail) | fail))
  refine AK.reg follows_any (rs := [.v (.bool true), .v (.bool true), .v (.bool true)]) (by rfl) ?_ ?_
  · ((repeat' apply And.intro) <;> first | trivial | omega | (simp only [List.length_nil, List.length_cons]; omega) | (intro hgd; first | (rw [hgd]; rfl) | (refine ⟨?_, by repeat (first | exact trivial | refine ⟨hgd, ?_⟩)⟩; (repeat' apply And.intro) <;> first | trivial | omega | (intro h2; rw [hgd, h2]; rfl) | skip)) | skip)
    all_goals exact eqID_any false _ _ _ _ _ _
  (repeat (first | apply AK.seq | apply AK.block | apply AK.blk | apply AK.skip | (refine AK.reg follows_any (rs := []) (by rfl) ?_ ?_; first | exact trivial | exact ⟨trivial, trivial⟩ | exact ⟨trivial, trivial, trivial⟩ | exact ⟨trivial, trivial, trivial, trivial⟩ | fail) | fail))
  refine AK.ret ⟨_, rfl, ?_⟩
  refine congrArg AV.bool ?_
  rw [w1]
  have e : eqCells [.str hidB, .str defB, .str (idB a n)] [.str hidB, .str defB, .str (idB b m)] = (decide (a = b) && decide ((n : Int) = m)) := by
    simp only [eqCells, decide_true, Bool.true_and, Bool.and_true]
    rw [Bool.eq_iff_iff, decide_eq_true_eq, Bool.and_eq_true, decide_eq_true_eq, decide_eq_true_eq, idB_inj]
    exact ⟨fun ⟨x, y⟩ => ⟨x, by omega⟩, fun ⟨x, y⟩ => ⟨x, by omega⟩⟩
  simp [e]
end Go.Proofs.YtpcddcfpbohogaaDoor
