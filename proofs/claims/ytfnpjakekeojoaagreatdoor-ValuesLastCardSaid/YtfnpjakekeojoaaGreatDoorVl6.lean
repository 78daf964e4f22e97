/-
  The value of a word: the document's, walked; it is the program's.
-/
import Derived.Test.YtfnpjakekeojoaaGreatDoorVl3
import Derived.Test.YtfnpjakekeojoaaGreatDoorRp2
namespace Go.Proofs.YtfnpjakekeojoaaGreatDoor
set_option linter.unusedSimpArgs false
set_option linter.unusedVariables false
open Go.RowKit

/-- what digits come to -/
def dvF (n : Nat) (l : List UInt8) : Nat := l.foldl (fun n c => n * 10 + (c.toNat - 48)) n
theorem dvF_ge (l : List UInt8) : ∀ n, n ≤ dvF n l := by
  induction l with
  | nil => intro n; exact Nat.le_refl _
  | cons c l ih => intro n; have := ih (n * 10 + (c.toNat - 48)); simp only [dvF, List.foldl_cons] at this ⊢; omega
theorem dvF_snoc {l : List UInt8} {k : Nat} {c : UInt8} (h : l[k]? = some c) : dvF 0 (l.take (k + 1)) = dvF 0 (l.take k) * 10 + (c.toNat - 48) := by
  rw [take_snoc h, dvF, List.foldl_append]; rfl
theorem dvF_take_le (l : List UInt8) (k : Nat) : dvF 0 (l.take k) ≤ dvF 0 l := by
  have e : dvF 0 l = dvF (dvF 0 (l.take k)) (l.drop k) := by rw [dvF, dvF, dvF, ← List.foldl_append, List.take_append_drop]
  rw [e]; exact dvF_ge _ _
def dgS (s : ByteArray) : List UInt8 := (cutS s ⟨#[45]⟩).data.toList
/-- digits' value; what is wrong -/
def numR (neg : Bool) (n : Nat) : V × Int := if neg = true then (if n ≤ 9223372036854775808 then (V.int (-(n : Int)), 0) else (V.null, 9)) else if n < 9223372036854775808 then (V.int n, 0) else (V.null, 9)
theorem parse_all : ∀ (l : List UInt8) (acc : Nat), (∀ c ∈ l, okD c = true) → Lib.parseUint10 acc l = if l = [] ∨ dvF acc l < 18446744073709551616 then .ok (dvF acc l) else .range
  | [], acc, _ => by simp [Lib.parseUint10, dvF]
  | c :: l, acc, h => by
    have hc : okD c = true := h c (by simp)
    simp only [okD, Bool.and_eq_true, decide_eq_true_eq] at hc
    have hge := dvF_ge l (acc * 10 + (c.toNat - 48))
    have e : dvF acc (c :: l) = dvF (acc * 10 + (c.toNat - 48)) l := rfl
    rw [Lib.parseUint10, if_pos hc, e]
    by_cases h1 : 1844674407370955162 ≤ acc
    · rw [if_pos h1, if_neg]
      simp; omega
    · rw [if_neg h1]
      by_cases h2 : 18446744073709551616 ≤ acc * 10 + (c.toNat - 48)
      · rw [if_pos h2, if_neg]
        simp; omega
      · rw [if_neg h2, parse_all l _ (fun x hx => h x (by simp [hx]))]
        by_cases hl : l = []
        · subst hl
          rw [if_pos (.inl rfl), if_pos (.inr (by simpa [dvF] using Nat.lt_of_not_le h2))]
        · simp [hl]
theorem atoi_num {s : ByteArray} (hN : numB s = true) : Lib.atoiAll s.data.toList = (if hasB s ⟨#[45]⟩ = true then (if dvF 0 (dgS s) ≤ 9223372036854775808 then .ok (-(dvF 0 (dgS s) : Int)) else .range) else if dvF 0 (dgS s) < 9223372036854775808 then .ok (dvF 0 (dgS s) : Int) else .range) := by
  simp only [numB, Bool.and_eq_true, decide_eq_true_eq] at hN
  obtain ⟨hA, h1⟩ := hN
  have hall : ∀ c ∈ dgS s, okD c = true := by
    unfold allB at hA
    exact List.all_eq_true.1 hA
  have hne : dgS s ≠ [] := by
    intro e
    have : (dgS s).length = (cutS s ⟨#[45]⟩).size := rfl
    rw [e] at this
    simp at this
    omega
  have hP : Lib.parseMag (dgS s) = if dvF 0 (dgS s) < 18446744073709551616 then .ok (dvF 0 (dgS s)) else .range := by
    rw [Lib.parseMag, if_neg hne, parse_all _ _ hall]
    simp [hne]
  cases hs : s.data.toList with
  | nil =>
    exfalso
    have : s.size = 0 := by have : s.data.toList.length = s.size := rfl
                            rw [hs] at this; exact this.symm
    have := cutS_size s ⟨#[45]⟩
    omega
  | cons c r =>
    have hsz : 1 ≤ s.size := by have : s.data.toList.length = s.size := rfl
                                rw [hs] at this; simp at this; omega
    have h0 : s[0] = c := by have := byte_drop (s := s) (k := 0) hsz; rw [List.drop_zero, hs] at this; injection this with h _; exact h.symm
    have hx : s.extract 0 (ByteArray.mk #[45]).size = ⟨#[s[0]]⟩ := ext_one hsz
    have hB : hasB s ⟨#[45]⟩ = decide (c = 45) := by
      rw [hasB, hx, h0, show (ByteArray.mk #[45]).size = 1 from rfl, decide_eq_true hsz, Bool.true_and]
      by_cases hc : c = 45
      · subst hc; simp
      · simp [hc]
    have hd : dgS s = if c = 45 then r else c :: r := by
      rw [dgS, cutS, hB]
      by_cases hc : c = 45
      · simp only [hc, decide_true, if_true]
        rw [show (ByteArray.mk #[45]).size = 1 from rfl, ext_end, hs]
        rfl
      · simp only [hc, decide_false, if_false, Bool.false_eq_true]
        exact hs
    rw [hB, Lib.atoiAll]
    have c43 : ¬ c.toNat = 43 := by
      intro e
      have hc : ¬ c = 45 := fun h => by rw [h] at e; exact absurd e (by decide)
      rw [if_neg hc] at hd
      have := hall c (by rw [hd]; simp)
      simp only [okD, e] at this
      exact absurd this (by decide)
    have e45 : c.toNat = 45 ↔ c = 45 := ⟨fun h => UInt8.toNat_inj.1 h, fun h => by rw [h]; rfl⟩
    have hd2 : (if c.toNat = 43 ∨ c.toNat = 45 then r else c :: r) = dgS s := by
      rw [hd]
      by_cases hc : c = 45
      · rw [if_pos (.inr (e45.2 hc)), if_pos hc]
      · rw [if_neg (fun h => h.elim c43 fun h => hc (e45.1 h)), if_neg hc]
    rw [hd2, hP]
    generalize dvF 0 (dgS s) = n at *
    by_cases hc : c = 45
    · have e := e45.2 hc
      simp only [hc, decide_true, if_true]
      by_cases hn : n ≤ 9223372036854775808
      · rw [if_pos (show n < 18446744073709551616 by omega), if_pos hn]
        have : ¬ 9223372036854775808 < n := by omega
        simp [this]
      · rw [if_neg hn]
        by_cases hn2 : n < 18446744073709551616
        · rw [if_pos hn2]
          have : 9223372036854775808 < n := by omega
          simp [this]
        · rw [if_neg hn2]
    · have e : ¬ c.toNat = 45 := fun h => hc (e45.1 h)
      simp only [hc, decide_false, Bool.false_eq_true, if_false]
      by_cases hn : n < 9223372036854775808
      · rw [if_pos (show n < 18446744073709551616 by omega), if_pos hn]
        have : ¬ 9223372036854775808 ≤ n := by omega
        simp [this, e]
      · rw [if_neg hn]
        by_cases hn2 : n < 18446744073709551616
        · rw [if_pos hn2]
          have : 9223372036854775808 ≤ n := by omega
          simp [this, e]
        · rw [if_neg hn2]
theorem scalP_num {s : ByteArray} (nn : ¬ (s = ⟨#[]⟩ ∨ s = ⟨#[126]⟩ ∨ s = wNull)) (nb : ¬ (s = wTrue ∨ s = wFalse)) (hN : numB s = true) : scalP s = numR (hasB s ⟨#[45]⟩) (dvF 0 (dgS s)) := by
  rw [scalP, if_neg nn, if_neg nb, if_neg (by rw [hN]; decide), atoi_num hN, numR]
  by_cases h : hasB s ⟨#[45]⟩ = true
  · rw [if_pos h, if_pos h]
    by_cases h2 : dvF 0 (dgS s) ≤ 9223372036854775808
    · rw [if_pos h2, if_pos h2]
    · rw [if_neg h2, if_neg h2]
  · rw [if_neg h, if_neg h]
    by_cases h2 : dvF 0 (dgS s) < 9223372036854775808
    · rw [if_pos h2, if_pos h2]
    · rw [if_neg h2, if_neg h2]
end Go.Proofs.YtfnpjakekeojoaaGreatDoor
/-
  The value of a word: the document's function, walked.
-/
namespace Go.Proofs.YtfnpjakekeojoaaGreatDoor
set_option linter.unusedSimpArgs false
set_option linter.unusedVariables false
open Go.RowKit

set_option maxRecDepth 4000 in
theorem refScal_a (s : ByteArray) (hz : s.size ≤ 1000000) : AC Tryz.prog 23 [.str s] (.tup [.agg [.int .i64 ((scalP s).1).kind, .bool ((scalP s).1).b, .int .i64 ((scalP s).1).n, .str ((scalP s).1).s, .lst .any 6 (rowsV ((scalP s).1).l), .lst .any 7 (rowsM ((scalP s).1).m)], .int .i64 (scalP s).2]) := by
  refine AC.enter Tryz.func23 a_ref04_Parse_ok a_ref04_Parse_cb (by rfl) fun E hE => ?_
  show AK _ _ _ [.c b_ref04_Parse] _ _
  rw [b_ref04_Parse]
  (repeat (first | apply AK.seq | apply AK.block | apply AK.blk | apply AK.skip | (refine AK.reg follows_any (rs := []) (by rfl) ?_ ?_; first | exact trivial | exact ⟨trivial, trivial⟩ | exact ⟨trivial, trivial, trivial⟩ | exact ⟨trivial, trivial, trivial, trivial⟩ | fail) | fail))
  refine AK.reg follows_any (rs := []) (by rfl) ?_ ?_
  · ((repeat' apply And.intro) <;> first | trivial | omega | (simp only [List.length_nil, List.length_cons]; omega) | (intro hgd; first | (rw [hgd]; rfl) | (refine ⟨?_, by repeat (first | exact trivial | refine ⟨hgd, ?_⟩)⟩; (repeat' apply And.intro) <;> first | trivial | omega | (intro h2; rw [hgd, h2]; rfl) | skip)) | skip)
  refine AK.cond (by rfl) (fun hb => ?_) (fun hb => ?_)
  · have h0 : s = ⟨#[]⟩ ∨ s = ⟨#[126]⟩ ∨ s = wNull := by simpa [or_assoc, wNull] using hb
    have h1 : scalP s = (V.null, 0) := by rw [scalP, if_pos h0]
    (repeat (first | apply AK.seq | apply AK.block | apply AK.blk | apply AK.skip | (refine AK.reg follows_any (rs := []) (by rfl) ?_ ?_; first | exact trivial | exact ⟨trivial, trivial⟩ | exact ⟨trivial, trivial, trivial⟩ | exact ⟨trivial, trivial, trivial, trivial⟩ | fail) | fail))
    refine AK.ret ⟨_, rfl, ?_⟩
    rw [h1]
    rfl
  have nn : ¬ (s = ⟨#[]⟩ ∨ s = ⟨#[126]⟩ ∨ s = wNull) := by
    intro h
    simp only [Bool.or_eq_false_iff, decide_eq_false_iff_not] at hb
    rcases h with h | h | h
    · exact hb.1.1 h
    · exact hb.1.2 h
    · exact hb.2 h
  (repeat (first | apply AK.seq | apply AK.block | apply AK.blk | apply AK.skip | (refine AK.reg follows_any (rs := []) (by rfl) ?_ ?_; first | exact trivial | exact ⟨trivial, trivial⟩ | exact ⟨trivial, trivial, trivial⟩ | exact ⟨trivial, trivial, trivial, trivial⟩ | fail) | fail))
  refine AK.reg follows_any (rs := []) (by rfl) ?_ ?_
  · ((repeat' apply And.intro) <;> first | trivial | omega | (simp only [List.length_nil, List.length_cons]; omega) | (intro hgd; first | (rw [hgd]; rfl) | (refine ⟨?_, by repeat (first | exact trivial | refine ⟨hgd, ?_⟩)⟩; (repeat' apply And.intro) <;> first | trivial | omega | (intro h2; rw [hgd, h2]; rfl) | skip)) | skip)
  refine AK.cond (by rfl) (fun hb => ?_) (fun hb => ?_)
  · have h0 : s = wTrue ∨ s = wFalse := by simpa [wTrue, wFalse] using hb
    have h1 : scalP s = (V.bool (decide (s = wTrue)), 0) := by rw [scalP, if_neg nn, if_pos h0]
    (repeat (first | apply AK.seq | apply AK.block | apply AK.blk | apply AK.skip | (refine AK.reg follows_any (rs := []) (by rfl) ?_ ?_; first | exact trivial | exact ⟨trivial, trivial⟩ | exact ⟨trivial, trivial, trivial⟩ | exact ⟨trivial, trivial, trivial, trivial⟩ | fail) | fail))
    refine AK.ret ⟨_, rfl, ?_⟩
    rw [h1]
    rfl
  have nb : ¬ (s = wTrue ∨ s = wFalse) := by
    intro h
    simp only [Bool.or_eq_false_iff, decide_eq_false_iff_not] at hb
    rcases h with h | h
    · exact hb.1 h
    · exact hb.2 h
  have hsz : 1 ≤ s.size := by have := mt (sz0 s).2 (fun h => nn (.inl h)); omega
  have hB : hasB s ⟨#[45]⟩ = decide (s[0] = 45) := by
    have hx : s.extract 0 (ByteArray.mk #[45]).size = ⟨#[s[0]]⟩ := ext_one hsz
    rw [hasB, hx, show (ByteArray.mk #[45]).size = 1 from rfl, decide_eq_true hsz, Bool.true_and]
    by_cases hc : s[0] = 45
    · rw [hc]; simp
    · simp [hc]
  have hcs : cutS s ⟨#[45]⟩ = if s[0] = 45 then s.extract 1 s.size else s := by
    rw [cutS, hB]
    by_cases hc : s[0] = 45
    · simp only [hc, decide_true, if_true]; rfl
    · simp only [hc, decide_false, if_false, Bool.false_eq_true]
  have hsc : numB s = true → scalP s = numR (hasB s ⟨#[45]⟩) (dvF 0 (dgS s)) := scalP_num nn nb
  have hst : numB s = false → scalP s = (V.str s, 0) := fun h => by rw [scalP, if_neg nn, if_neg nb, if_pos h]
  have hnb : numB s = (allB okD (cutS s ⟨#[45]⟩) && decide (1 ≤ (cutS s ⟨#[45]⟩).size)) := rfl
  have hdg : dgS s = (cutS s ⟨#[45]⟩).data.toList := rfl
  have hcz := cutS_size s ⟨#[45]⟩
  generalize hR : scalP s = R at *
  rw [hB] at hsc
  have hd0 : s[0] = 45 → cutS s ⟨#[45]⟩ = s.extract 1 s.size := fun h => by rw [hcs, if_pos h]
  have hd1 : ¬ s[0] = 45 → cutS s ⟨#[45]⟩ = s := fun h => by rw [hcs, if_neg h]
  clear hcs hB
  generalize hdd : cutS s ⟨#[45]⟩ = d at *
  rw [hdg] at hsc
  clear hdg
  (repeat (first | apply AK.seq | apply AK.block | apply AK.blk | apply AK.skip | (refine AK.reg follows_any (rs := []) (by rfl) ?_ ?_; first | exact trivial | exact ⟨trivial, trivial⟩ | exact ⟨trivial, trivial, trivial⟩ | exact ⟨trivial, trivial, trivial, trivial⟩ | fail) | fail))
  refine AK.reg follows_any (rs := []) (by rfl) ?_ ?_
  · ((repeat' apply And.intro) <;> first | trivial | omega | (simp only [List.length_nil, List.length_cons]; omega) | (intro hgd; first | (rw [hgd]; rfl) | (refine ⟨?_, by repeat (first | exact trivial | refine ⟨hgd, ?_⟩)⟩; (repeat' apply And.intro) <;> first | trivial | omega | (intro h2; rw [hgd, h2]; rfl) | skip)) | skip)
  rw [show s.data.getD (0 : Int).toNat 0 = s[0] from byte_at hsz]
  refine AK.cond (by rfl) (fun hb => ?_) (fun hb => ?_)
  have e : s[0] = 45 := UInt8.toNat_inj.1 (by have : ((s[0].toNat : Nat) : Int) = 45 := by simpa using hb
                                              show s[0].toNat = 45; omega)
  obtain ⟨neg, hneg⟩ : ∃ b : Bool, b = true := ⟨true, rfl⟩
  have hn2 : decide (s[0] = 45) = neg := by rw [hneg]; exact decide_eq_true e
  have hde := hd0 e
  (repeat (first | apply AK.seq | apply AK.block | apply AK.blk | apply AK.skip | (refine AK.reg follows_any (rs := []) (by rfl) ?_ ?_; first | exact trivial | exact ⟨trivial, trivial⟩ | exact ⟨trivial, trivial, trivial⟩ | exact ⟨trivial, trivial, trivial, trivial⟩ | fail) | fail))
  refine AK.reg follows_any (rs := []) (by rfl) ?_ ?_
  · ((repeat' apply And.intro) <;> first | trivial | omega | (simp only [List.length_nil, List.length_cons]; omega) | (intro hgd; first | (rw [hgd]; rfl) | (refine ⟨?_, by repeat (first | exact trivial | refine ⟨hgd, ?_⟩)⟩; (repeat' apply And.intro) <;> first | trivial | omega | (intro h2; rw [hgd, h2]; rfl) | skip)) | skip)
  refine AK.reg follows_any (rs := []) (by rfl) (by (repeat (first | exact trivial | exact rfl | refine ⟨trivial, ?_⟩ | refine ⟨rfl, ?_⟩))) ?_
  refine AK.weak (Weak.intro (L := [(0, .str s), (2, .ptr 2 0), (4, .str d), (5, .bool neg)]) (BL := [(2, [.int .i64 0, .bool false, .int .i64 0, .str ⟨#[]⟩, .lst .nil 6 [], .lst .nil 7 []], false)]) ⟨⟨_, rfl, .refl _⟩, ⟨_, rfl, .refl _⟩, ⟨_, rfl, .of_eq (congrArg AV.str (by rw [hde]; rfl))⟩, ⟨_, rfl, .of_eq (congrArg AV.bool (by rw [hneg]))⟩, trivial⟩ ⟨⟨_, rfl, leL_refl _⟩, trivial⟩ rfl rfl) ?_
  rotate_left 1
  have e : ¬ s[0] = 45 := fun e => by rw [e] at hb; cases hb
  obtain ⟨neg, hneg⟩ : ∃ b : Bool, b = false := ⟨false, rfl⟩
  have hn2 : decide (s[0] = 45) = neg := by rw [hneg]; exact decide_eq_false e
  have hde := hd1 e
  apply AK.skip
  refine AK.weak (Weak.intro (L := [(0, .str s), (2, .ptr 2 0), (4, .str d), (5, .bool neg)]) (BL := [(2, [.int .i64 0, .bool false, .int .i64 0, .str ⟨#[]⟩, .lst .nil 6 [], .lst .nil 7 []], false)]) ⟨⟨_, rfl, .refl _⟩, ⟨_, rfl, .refl _⟩, ⟨_, rfl, .of_eq (congrArg AV.str (by rw [hde]))⟩, ⟨_, rfl, .of_eq (congrArg AV.bool (by rw [hneg]))⟩, trivial⟩ ⟨⟨_, rfl, leL_refl _⟩, trivial⟩ rfl rfl) ?_
  all_goals
    rw [hn2] at hsc
    clear hde hd0 hd1 e hneg hn2 hb
    (repeat (first | apply AK.seq | apply AK.block | apply AK.blk | apply AK.skip | (refine AK.reg follows_any (rs := []) (by rfl) ?_ ?_; first | exact trivial | exact ⟨trivial, trivial⟩ | exact ⟨trivial, trivial, trivial⟩ | exact ⟨trivial, trivial, trivial, trivial⟩ | fail) | fail))
    refine AK.cond (by rfl) (fun hb => ?_) (fun hb => ?_)
    · have hz0 : d.size = 0 := by simpa using hb
      have hN : numB s = false := by rw [hnb, hz0]; simp
      have h1 := hst hN
      (repeat (first | apply AK.seq | apply AK.block | apply AK.blk | apply AK.skip | (refine AK.reg follows_any (rs := []) (by rfl) ?_ ?_; first | exact trivial | exact ⟨trivial, trivial⟩ | exact ⟨trivial, trivial, trivial⟩ | exact ⟨trivial, trivial, trivial, trivial⟩ | fail) | fail))
      refine AK.ret ⟨_, rfl, ?_⟩
      rw [h1]
      rfl
    have hz1 : 1 ≤ d.size := by
      have : ¬ d.size = 0 := by simpa using hb
      omega
    (repeat (first | apply AK.seq | apply AK.block | apply AK.blk | apply AK.skip | (refine AK.reg follows_any (rs := []) (by rfl) ?_ ?_; first | exact trivial | exact ⟨trivial, trivial⟩ | exact ⟨trivial, trivial, trivial⟩ | exact ⟨trivial, trivial, trivial, trivial⟩ | fail) | fail))
    refine AK.loopI (fun k : Nat => (frOf [(0, .str s), (2, .ptr 2 0), (4, .str d), (5, .bool neg), (6, .int .i64 k)], ⟨boxOf [(2, [.int .i64 0, .bool false, .int .i64 0, .str ⟨#[]⟩, .lst .nil 6 [], .lst .nil 7 []], false)], fun _ => 0⟩)) (fun k => k ≤ d.size ∧ allTo okD d k) (fun k => d.size - k) 0 ⟨by omega, allTo_zero _ _⟩ (Weak.intro ⟨⟨_, rfl, .refl _⟩, ⟨_, rfl, .refl _⟩, ⟨_, rfl, .refl _⟩, ⟨_, rfl, .refl _⟩, ⟨_, rfl, .refl _⟩, trivial⟩ ⟨⟨_, rfl, leL_refl _⟩, trivial⟩ rfl rfl) fun k ⟨hk, hno⟩ => ?_
    (repeat (first | apply AK.seq | apply AK.block | apply AK.blk | apply AK.skip | (refine AK.reg follows_any (rs := []) (by rfl) ?_ ?_; first | exact trivial | exact ⟨trivial, trivial⟩ | exact ⟨trivial, trivial, trivial⟩ | exact ⟨trivial, trivial, trivial, trivial⟩ | fail) | fail))
    refine AK.cond (by rfl) (fun hb => ?_) (fun hb => ?_)
    · have hlt : k < d.size := by simpa using hb
      (repeat (first | apply AK.seq | apply AK.block | apply AK.blk | apply AK.skip | (refine AK.reg follows_any (rs := []) (by rfl) ?_ ?_; first | exact trivial | exact ⟨trivial, trivial⟩ | exact ⟨trivial, trivial, trivial⟩ | exact ⟨trivial, trivial, trivial, trivial⟩ | fail) | fail))
      refine AK.reg follows_any (rs := []) (by rfl) ?_ ?_
      · ((repeat' apply And.intro) <;> first | trivial | omega | (simp only [List.length_nil, List.length_cons]; omega) | (intro hgd; first | (rw [hgd]; rfl) | (refine ⟨?_, by repeat (first | exact trivial | refine ⟨hgd, ?_⟩)⟩; (repeat' apply And.intro) <;> first | trivial | omega | (intro h2; rw [hgd, h2]; rfl) | skip)) | skip)
      rw [show d.data.getD (k : Int).toNat 0 = d[k] from byte_at hlt]
      refine AK.cond (by rfl) (fun hb => ?_) (fun hb => ?_)
      · have hf : okD d[k] = false := by
          simp only [Bool.or_eq_true, decide_eq_true_eq] at hb
          simp only [okD, Bool.and_eq_false_iff, decide_eq_false_iff_not]
          omega
        have hN : numB s = false := by rw [hnb, allB_false hlt hf]; rfl
        have h1 := hst hN
        (repeat (first | apply AK.seq | apply AK.block | apply AK.blk | apply AK.skip | (refine AK.reg follows_any (rs := []) (by rfl) ?_ ?_; first | exact trivial | exact ⟨trivial, trivial⟩ | exact ⟨trivial, trivial, trivial⟩ | exact ⟨trivial, trivial, trivial, trivial⟩ | fail) | fail))
        refine AK.ret ⟨_, rfl, ?_⟩
        rw [h1]
        rfl
      · have ht : okD d[k] = true := by
          simp only [Bool.or_eq_false_iff, decide_eq_false_iff_not] at hb
          simp only [okD, Bool.and_eq_true, decide_eq_true_eq]
          omega
        (repeat (first | apply AK.seq | apply AK.block | apply AK.blk | apply AK.skip | (refine AK.reg follows_any (rs := []) (by rfl) ?_ ?_; first | exact trivial | exact ⟨trivial, trivial⟩ | exact ⟨trivial, trivial, trivial⟩ | exact ⟨trivial, trivial, trivial, trivial⟩ | fail) | fail))
        exact AK.lp ⟨k + 1, ⟨by omega, allTo_succ hno hlt ht⟩, Weak.intro ⟨⟨_, rfl, .refl _⟩, ⟨_, rfl, .refl _⟩, ⟨_, rfl, .refl _⟩, ⟨_, rfl, .refl _⟩, ⟨_, rfl, .of_eq (congrArg _ (by first | omega | (rw [wrap_in (by omega) (by omega)]; omega)))⟩, trivial⟩ ⟨⟨_, rfl, leL_refl _⟩, trivial⟩ rfl rfl, by omega⟩
    · have hlt : k = d.size := by have : d.size ≤ k := by simpa using hb
                                  omega
      subst hlt
      refine AK.exit rfl ?_
      have hN : numB s = true := by rw [hnb, allB_true hno, decide_eq_true hz1]; rfl
      have h1 := hsc hN
      clear hst hsc hk
      (repeat (first | apply AK.seq | apply AK.block | apply AK.blk | apply AK.skip | (refine AK.reg follows_any (rs := []) (by rfl) ?_ ?_; first | exact trivial | exact ⟨trivial, trivial⟩ | exact ⟨trivial, trivial, trivial⟩ | exact ⟨trivial, trivial, trivial, trivial⟩ | fail) | fail))
      refine AK.loopI (fun k : Nat => (frOf [(0, .str s), (2, .ptr 2 0), (4, .str d), (5, .bool neg), (7, .int .i64 (-(dvF 0 (d.data.toList.take k) : Int))), (8, .int .i64 k)], ⟨boxOf [(2, [.int .i64 0, .bool false, .int .i64 0, .str ⟨#[]⟩, .lst .nil 6 [], .lst .nil 7 []], false)], fun _ => 0⟩)) (fun k => k ≤ d.size ∧ dvF 0 (d.data.toList.take k) ≤ 9223372036854775808) (fun k => d.size - k) 0 ⟨by omega, by simp [dvF]⟩ (Weak.intro ⟨⟨_, rfl, .refl _⟩, ⟨_, rfl, .refl _⟩, ⟨_, rfl, .refl _⟩, ⟨_, rfl, .refl _⟩, ⟨_, rfl, .of_eq (congrArg (AV.int _) (by simp [dvF]))⟩, ⟨_, rfl, .refl _⟩, trivial⟩ ⟨⟨_, rfl, leL_refl _⟩, trivial⟩ rfl rfl) fun k ⟨hk, hv⟩ => ?_
      (repeat (first | apply AK.seq | apply AK.block | apply AK.blk | apply AK.skip | (refine AK.reg follows_any (rs := []) (by rfl) ?_ ?_; first | exact trivial | exact ⟨trivial, trivial⟩ | exact ⟨trivial, trivial, trivial⟩ | exact ⟨trivial, trivial, trivial, trivial⟩ | fail) | fail))
      refine AK.cond (by rfl) (fun hb => ?_) (fun hb => ?_)
      · have hlt : k < d.size := by simpa using hb
        have hd := hno k hlt hlt
        simp only [okD, Bool.and_eq_true, decide_eq_true_eq] at hd
        have hst := dvF_snoc (l := d.data.toList) (k := k) (c := d[k]) (by rw [List.getElem?_eq_getElem (show k < d.data.toList.length from hlt)]; rfl)
        have hle := dvF_take_le d.data.toList (k + 1)
        (repeat (first | apply AK.seq | apply AK.block | apply AK.blk | apply AK.skip | (refine AK.reg follows_any (rs := []) (by rfl) ?_ ?_; first | exact trivial | exact ⟨trivial, trivial⟩ | exact ⟨trivial, trivial, trivial⟩ | exact ⟨trivial, trivial, trivial, trivial⟩ | fail) | fail))
        refine AK.reg follows_any (rs := []) (by rfl) ?_ ?_
        · ((repeat' apply And.intro) <;> first | trivial | omega | (simp only [List.length_nil, List.length_cons]; omega) | (intro hgd; first | (rw [hgd]; rfl) | (refine ⟨?_, by repeat (first | exact trivial | refine ⟨hgd, ?_⟩)⟩; (repeat' apply And.intro) <;> first | trivial | omega | (intro h2; rw [hgd, h2]; rfl) | skip)) | skip)
        rw [show d.data.getD (k : Int).toNat 0 = d[k] from byte_at hlt]
        (repeat (first | apply AK.seq | apply AK.block | apply AK.blk | apply AK.skip | (refine AK.reg follows_any (rs := []) (by rfl) ?_ ?_; first | exact trivial | exact ⟨trivial, trivial⟩ | exact ⟨trivial, trivial, trivial⟩ | exact ⟨trivial, trivial, trivial, trivial⟩ | fail) | fail))
        have hkw : IntKind.i64.wrap (IntKind.u8.wrap ((d[k].toNat : Int) - 48)) = ((d[k].toNat - 48 : Nat) : Int) := by
          have h1 : IntKind.u8.wrap ((d[k].toNat : Int) - 48) = ((d[k].toNat - 48 : Nat) : Int) := by
            have : ((d[k].toNat : Int) - 48) = ((d[k].toNat - 48 : Nat) : Int) := by omega
            rw [this]
            unfold IntKind.wrap
            simp only [IntKind.signed, IntKind.bits]
            simp
            omega
          rw [h1, wrap_in (by omega) (by omega)]
        refine AK.reg follows_any (rs := []) (by rfl) ?_ ?_
        · ((repeat' apply And.intro) <;> first | trivial | omega | (simp only [List.length_nil, List.length_cons]; omega) | (intro hgd; first | (rw [hgd]; rfl) | (refine ⟨?_, by repeat (first | exact trivial | refine ⟨hgd, ?_⟩)⟩; (repeat' apply And.intro) <;> first | trivial | omega | (intro h2; rw [hgd, h2]; rfl) | skip)) | skip)
        generalize hP : dvF 0 (d.data.toList.take k) = P at *
        generalize hD : d[k].toNat - 48 = D at *
        have hD9 : D ≤ 9 := by omega
        refine AK.cond (by rfl) (fun hb => ?_) (fun hb => ?_)
        · have hbig : 9223372036854775808 < dvF 0 d.data.toList := by
            rw [hkw] at hb
            simp only [Bool.or_eq_true, Bool.and_eq_true, decide_eq_true_eq] at hb
            omega
          (repeat (first | apply AK.seq | apply AK.block | apply AK.blk | apply AK.skip | (refine AK.reg follows_any (rs := []) (by rfl) ?_ ?_; first | exact trivial | exact ⟨trivial, trivial⟩ | exact ⟨trivial, trivial, trivial⟩ | exact ⟨trivial, trivial, trivial, trivial⟩ | fail) | fail))
          refine AK.ret ⟨_, rfl, ?_⟩
          rw [h1, numR]
          cases neg with
          | false => rw [if_neg (by decide), if_neg (by omega)]; rfl
          | true => rw [if_pos rfl, if_neg (by omega)]; rfl
        · have hsm : P * 10 + D ≤ 9223372036854775808 := by
            rw [hkw] at hb
            simp only [Bool.or_eq_false_iff, Bool.and_eq_false_iff, decide_eq_false_iff_not] at hb
            omega
          (repeat (first | apply AK.seq | apply AK.block | apply AK.blk | apply AK.skip | (refine AK.reg follows_any (rs := []) (by rfl) ?_ ?_; first | exact trivial | exact ⟨trivial, trivial⟩ | exact ⟨trivial, trivial, trivial⟩ | exact ⟨trivial, trivial, trivial, trivial⟩ | fail) | fail))
          refine AK.lp ⟨k + 1, ⟨by omega, by omega⟩, Weak.intro ⟨⟨_, rfl, .refl _⟩, ⟨_, rfl, .refl _⟩, ⟨_, rfl, .refl _⟩, ⟨_, rfl, .refl _⟩, ⟨_, rfl, .of_eq (congrArg (AV.int _) ?_)⟩, ⟨_, rfl, .of_eq (congrArg _ (by first | omega | (rw [wrap_in (by omega) (by omega)]; omega)))⟩, trivial⟩ ⟨⟨_, rfl, leL_refl _⟩, trivial⟩ rfl rfl, by omega⟩
          rw [hst, hkw, wrap_in (n := -(P : Int) * 10) (by omega) (by omega), wrap_in (by omega) (by omega)]
          omega
      · have hlt : k = d.size := by have : d.size ≤ k := by simpa using hb
                                    omega
        subst hlt
        rw [show d.data.toList.take d.size = d.data.toList from List.take_of_length_le (Nat.le_refl _)] at hv ⊢
        refine AK.exit rfl ?_
        (repeat (first | apply AK.seq | apply AK.block | apply AK.blk | apply AK.skip | (refine AK.reg follows_any (rs := []) (by rfl) ?_ ?_; first | exact trivial | exact ⟨trivial, trivial⟩ | exact ⟨trivial, trivial, trivial⟩ | exact ⟨trivial, trivial, trivial, trivial⟩ | fail) | fail))
        refine AK.cond (by rfl) (fun hb => ?_) (fun hb => ?_)
        · have hneg : neg = true := hb
          (repeat (first | apply AK.seq | apply AK.block | apply AK.blk | apply AK.skip | (refine AK.reg follows_any (rs := []) (by rfl) ?_ ?_; first | exact trivial | exact ⟨trivial, trivial⟩ | exact ⟨trivial, trivial, trivial⟩ | exact ⟨trivial, trivial, trivial, trivial⟩ | fail) | fail))
          refine AK.ret ⟨_, rfl, ?_⟩
          rw [h1, numR, if_pos hneg, if_pos hv]
          rfl
        · have hneg : neg = false := hb
          (repeat (first | apply AK.seq | apply AK.block | apply AK.blk | apply AK.skip | (refine AK.reg follows_any (rs := []) (by rfl) ?_ ?_; first | exact trivial | exact ⟨trivial, trivial⟩ | exact ⟨trivial, trivial, trivial⟩ | exact ⟨trivial, trivial, trivial, trivial⟩ | fail) | fail))
          refine AK.cond (by rfl) (fun hb => ?_) (fun hb => ?_)
          · have hbig : ¬ dvF 0 d.data.toList < 9223372036854775808 := by
              have : -(dvF 0 d.data.toList : Int) = -9223372036854775808 := by simpa using hb
              omega
            (repeat (first | apply AK.seq | apply AK.block | apply AK.blk | apply AK.skip | (refine AK.reg follows_any (rs := []) (by rfl) ?_ ?_; first | exact trivial | exact ⟨trivial, trivial⟩ | exact ⟨trivial, trivial, trivial⟩ | exact ⟨trivial, trivial, trivial, trivial⟩ | fail) | fail))
            refine AK.ret ⟨_, rfl, ?_⟩
            rw [h1, numR, hneg, if_neg hbig]
            rfl
          · have hsm : dvF 0 d.data.toList < 9223372036854775808 := by
              have : ¬ -(dvF 0 d.data.toList : Int) = -9223372036854775808 := by simpa using hb
              omega
            (repeat (first | apply AK.seq | apply AK.block | apply AK.blk | apply AK.skip | (refine AK.reg follows_any (rs := []) (by rfl) ?_ ?_; first | exact trivial | exact ⟨trivial, trivial⟩ | exact ⟨trivial, trivial, trivial⟩ | exact ⟨trivial, trivial, trivial, trivial⟩ | fail) | fail))
            refine AK.ret ⟨_, rfl, ?_⟩
            rw [h1, numR, hneg, if_pos hsm, wrap_in (by omega) (by omega), Int.zero_sub, Int.neg_neg]
            rfl
end Go.Proofs.YtfnpjakekeojoaaGreatDoor
