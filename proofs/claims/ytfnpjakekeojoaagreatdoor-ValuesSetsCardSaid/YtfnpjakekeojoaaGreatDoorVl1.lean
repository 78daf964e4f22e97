/-
  Words, prefixes, numbers: the functions over texts, walked.
-/
import Derived.Test.YtfnpjakekeojoaaGreatDoorValA
import Derived.Test.YtfnpjakekeojoaaGreatDoorValB
import Derived.Test.YtfnpjakekeojoaaGreatDoorDrT
import Derived.Test.YtfnpjakekeojoaaGreatDoorShl
import Derived.Test.YtfnpjakekeojoaaGreatDoorVBd
import Derived.Test.YtfnpjakekeojoaaGreatDoorFrame
import Derived.Lib.Strings
import Derived.BigQuiet
import Derived.Test.YtfnpjakekeojoaaGreatDoorCl2
namespace Go.Proofs.YtfnpjakekeojoaaGreatDoor
set_option linter.unusedSimpArgs false
set_option linter.unusedVariables false
open Go.RowKit

def rowsP (p : List ByteArray) : List (List AV) := p.map fun s => [.str s]
theorem rowsP_len (l : List ByteArray) : (rowsP l).length = l.length := List.length_map _
theorem rowsP_at {l : List ByteArray} {k : Nat} {s : ByteArray} (h : l[k]? = some s) : (rowsP l)[k]? = some [.str s] := by simp [rowsP, h]
theorem sz0 (s : ByteArray) : s = ByteArray.empty ↔ s.size = 0 := by
  refine ⟨fun h => by subst h; rfl, fun h => ?_⟩
  cases s with
  | mk a =>
    have : a = #[] := Array.eq_empty_of_size_eq_zero h
    subst this; rfl
/-- a step's byte -/
def okW (c : UInt8) : Bool := decide (97 ≤ c.toNat) && decide (c.toNat ≤ 122) || decide (65 ≤ c.toNat) && decide (c.toNat ≤ 90) || decide (48 ≤ c.toNat) && decide (c.toNat ≤ 57) || c.toNat == 95 || c.toNat == 45
/-- may a text be a step? -/
def wdB (s : ByteArray) : Bool := allB okW s && (decide (1 ≤ s.size) && decide (s.size ≤ 256))
theorem refWord_a (s : ByteArray) (hs : s.size ≤ 140737488355328) : AC Tryz.prog 13 [.str s] (.bool (wdB s)) := by
  refine AC.enter Tryz.func13 a_ref02_Word_ok a_ref02_Word_cb (by rfl) fun E hE => ?_
  show AK _ _ _ [.c b_ref02_Word] _ _
  rw [b_ref02_Word]
  (repeat (first | apply kS | apply kB | apply kL | apply kN | (refine kR follows_any [] (by rfl) ?_ ?_; first | exact kT1 | exact kT2 | exact kT3 | exact kT4)))
  refine AK.loopI (fun k : Nat => (frOf [(0, .str s), (3, .int .i64 k)], ⟨boxOf [], fun _ => 0⟩)) (fun k => k ≤ s.size ∧ allTo okW s k) (fun k => s.size - k) 0 ⟨by omega, allTo_zero _ _⟩ (Weak.intro ⟨⟨_, rfl, .refl _⟩, ⟨_, rfl, .refl _⟩, trivial⟩ trivial rfl rfl) fun k ⟨hk, hno⟩ => ?_
  (repeat (first | apply kS | apply kB | apply kL | apply kN | (refine kR follows_any [] (by rfl) ?_ ?_; first | exact kT1 | exact kT2 | exact kT3 | exact kT4)))
  refine AK.cond (by rfl) (fun hb => ?_) (fun hb => ?_)
  · have hlt : k < s.size := by simpa using hb
    (repeat (first | apply kS | apply kB | apply kL | apply kN | (refine kR follows_any [] (by rfl) ?_ ?_; first | exact kT1 | exact kT2 | exact kT3 | exact kT4)))
    refine kR follows_any [] (by rfl) ?_ ?_
    · ((repeat' apply And.intro) <;> first | trivial | omega | (simp only [List.length_nil, List.length_cons]; omega) | (intro hgd; first | (rw [hgd]; rfl) | (refine ⟨?_, by repeat (first | exact trivial | refine ⟨hgd, ?_⟩)⟩; (repeat' apply And.intro) <;> first | trivial | omega | (intro h2; rw [hgd, h2]; rfl) | skip)) | skip)
    rw [show s.data.getD (k : Int).toNat 0 = s[k] from byte_at hlt]
    (repeat (first | apply kS | apply kB | apply kL | apply kN | (refine kR follows_any [] (by rfl) ?_ ?_; first | exact kT1 | exact kT2 | exact kT3 | exact kT4)))
    refine kR follows_any [] (by rfl) ?_ ?_
    · ((repeat' apply And.intro) <;> first | trivial | omega | (simp only [List.length_nil, List.length_cons]; omega) | (intro hgd; first | (rw [hgd]; rfl) | (refine ⟨?_, by repeat (first | exact trivial | refine ⟨hgd, ?_⟩)⟩; (repeat' apply And.intro) <;> first | trivial | omega | (intro h2; rw [hgd, h2]; rfl) | skip)) | skip)
    refine AK.cond (by rfl) (fun hb => ?_) (fun hb => ?_)
    · (repeat (first | apply kS | apply kB | apply kL | apply kN | (refine kR follows_any [] (by rfl) ?_ ?_; first | exact kT1 | exact kT2 | exact kT3 | exact kT4)))
      refine AK.ret ⟨_, rfl, ?_⟩
      have hf : okW s[k] = false := by
        simp only [Bool.or_eq_true, Bool.and_eq_true, Bool.not_eq_true', Bool.or_eq_false_iff, Bool.and_eq_false_iff, decide_eq_true_eq, decide_eq_false_iff_not] at hb
        simp only [okW, Bool.or_eq_false_iff, Bool.and_eq_false_iff, decide_eq_false_iff_not, beq_eq_false_iff_ne, ne_eq]
        omega
      rw [wdB, allB_false hlt hf]
      rfl
    · have ht : okW s[k] = true := by
        simp only [Bool.or_eq_false_iff, Bool.and_eq_false_iff, Bool.not_eq_false', Bool.or_eq_true, Bool.and_eq_true, decide_eq_true_eq, decide_eq_false_iff_not] at hb
        simp only [okW, Bool.or_eq_true, Bool.and_eq_true, decide_eq_true_eq, beq_iff_eq]
        omega
      (repeat (first | apply kS | apply kB | apply kL | apply kN | (refine kR follows_any [] (by rfl) ?_ ?_; first | exact kT1 | exact kT2 | exact kT3 | exact kT4)))
      exact AK.lp ⟨k + 1, ⟨by omega, allTo_succ hno hlt ht⟩, Weak.intro ⟨⟨_, rfl, .refl _⟩, ⟨_, rfl, .of_eq (congrArg _ (by first | omega | (rw [wrap_in (by omega) (by omega)]; omega)))⟩, trivial⟩ trivial rfl rfl, by omega⟩
  · have hlt : k = s.size := by have : s.size ≤ k := by simpa using hb
                                omega
    subst hlt
    refine AK.exit rfl ?_
    (repeat (first | apply kS | apply kB | apply kL | apply kN | (refine kR follows_any [] (by rfl) ?_ ?_; first | exact kT1 | exact kT2 | exact kT3 | exact kT4)))
    refine kR follows_any [] (by rfl) ?_ ?_
    · ((repeat' apply And.intro) <;> first | trivial | omega | (simp only [List.length_nil, List.length_cons]; omega) | (intro hgd; first | (rw [hgd]; rfl) | (refine ⟨?_, by repeat (first | exact trivial | refine ⟨hgd, ?_⟩)⟩; (repeat' apply And.intro) <;> first | trivial | omega | (intro h2; rw [hgd, h2]; rfl) | skip)) | skip)
    (repeat (first | apply kS | apply kB | apply kL | apply kN | (refine kR follows_any [] (by rfl) ?_ ?_; first | exact kT1 | exact kT2 | exact kT3 | exact kT4)))
    refine AK.ret ⟨_, rfl, ?_⟩
    show AV.bool _ = AV.bool _
    refine congrArg AV.bool ?_
    rw [wdB, allB_true hno, Bool.eq_iff_iff]
    simp
    try omega
theorem word_a (s : ByteArray) (hs : s.size ≤ 140737488355328) : AC Tryz.prog 53 [.str s] (.bool (wdB s)) := by
  refine AC.enter Tryz.func53 a_path_word_ok a_path_word_cb (by rfl) fun E hE => ?_
  show AK _ _ _ [.c b_path_word] _ _
  rw [b_path_word]
  (repeat (first | apply kS | apply kB | apply kL | apply kN | (refine kR follows_any [] (by rfl) ?_ ?_; first | exact kT1 | exact kT2 | exact kT3 | exact kT4)))
  refine AK.loopI (fun k : Nat => (frOf [(0, .str s), (6, .int .i64 s.size), (7, .int .i64 k)], ⟨boxOf [], fun _ => 0⟩)) (fun k => k ≤ s.size ∧ allTo okW s k) (fun k => s.size - k) 0 ⟨by omega, allTo_zero _ _⟩ (Weak.intro ⟨⟨_, rfl, .refl _⟩, ⟨_, rfl, .refl _⟩, ⟨_, rfl, .refl _⟩, trivial⟩ trivial rfl rfl) fun k ⟨hk, hno⟩ => ?_
  (repeat (first | apply kS | apply kB | apply kL | apply kN | (refine kR follows_any [] (by rfl) ?_ ?_; first | exact kT1 | exact kT2 | exact kT3 | exact kT4)))
  refine AK.cond (by rfl) (fun hb => ?_) (fun hb => ?_)
  · have hlt : k < s.size := by simpa using hb
    (repeat (first | apply kS | apply kB | apply kL | apply kN | (refine kR follows_any [] (by rfl) ?_ ?_; first | exact kT1 | exact kT2 | exact kT3 | exact kT4)))
    refine kR follows_any [] (by rfl) ?_ ?_
    · ((repeat' apply And.intro) <;> first | trivial | omega | (simp only [List.length_nil, List.length_cons]; omega) | (intro hgd; first | (rw [hgd]; rfl) | (refine ⟨?_, by repeat (first | exact trivial | refine ⟨hgd, ?_⟩)⟩; (repeat' apply And.intro) <;> first | trivial | omega | (intro h2; rw [hgd, h2]; rfl) | skip)) | skip)
    rw [show s.data.getD (k : Int).toNat 0 = s[k] from byte_at hlt]
    (repeat (first | apply kS | apply kB | apply kL | apply kN | (refine kR follows_any [] (by rfl) ?_ ?_; first | exact kT1 | exact kT2 | exact kT3 | exact kT4)))
    refine kR follows_any [] (by rfl) ?_ ?_
    · ((repeat' apply And.intro) <;> first | trivial | omega | (simp only [List.length_nil, List.length_cons]; omega) | (intro hgd; first | (rw [hgd]; rfl) | (refine ⟨?_, by repeat (first | exact trivial | refine ⟨hgd, ?_⟩)⟩; (repeat' apply And.intro) <;> first | trivial | omega | (intro h2; rw [hgd, h2]; rfl) | skip)) | skip)
    refine AK.cond (by rfl) (fun hb => ?_) (fun hb => ?_)
    · (repeat (first | apply kS | apply kB | apply kL | apply kN | (refine kR follows_any [] (by rfl) ?_ ?_; first | exact kT1 | exact kT2 | exact kT3 | exact kT4)))
      refine AK.ret ⟨_, rfl, ?_⟩
      have hf : okW s[k] = false := by
        simp only [Bool.or_eq_true, Bool.and_eq_true, Bool.not_eq_true', Bool.or_eq_false_iff, Bool.and_eq_false_iff, decide_eq_true_eq, decide_eq_false_iff_not] at hb
        simp only [okW, Bool.or_eq_false_iff, Bool.and_eq_false_iff, decide_eq_false_iff_not, beq_eq_false_iff_ne, ne_eq]
        omega
      rw [wdB, allB_false hlt hf]
      rfl
    · have ht : okW s[k] = true := by
        simp only [Bool.or_eq_false_iff, Bool.and_eq_false_iff, Bool.not_eq_false', Bool.or_eq_true, Bool.and_eq_true, decide_eq_true_eq, decide_eq_false_iff_not] at hb
        simp only [okW, Bool.or_eq_true, Bool.and_eq_true, decide_eq_true_eq, beq_iff_eq]
        omega
      (repeat (first | apply kS | apply kB | apply kL | apply kN | (refine kR follows_any [] (by rfl) ?_ ?_; first | exact kT1 | exact kT2 | exact kT3 | exact kT4)))
      exact AK.lp ⟨k + 1, ⟨by omega, allTo_succ hno hlt ht⟩, Weak.intro ⟨⟨_, rfl, .refl _⟩, ⟨_, rfl, .refl _⟩, ⟨_, rfl, .of_eq (congrArg _ (by first | omega | (rw [wrap_in (by omega) (by omega)]; omega)))⟩, trivial⟩ trivial rfl rfl, by omega⟩
  · have hlt : k = s.size := by have : s.size ≤ k := by simpa using hb
                                omega
    subst hlt
    refine AK.exit rfl ?_
    (repeat (first | apply kS | apply kB | apply kL | apply kN | (refine kR follows_any [] (by rfl) ?_ ?_; first | exact kT1 | exact kT2 | exact kT3 | exact kT4)))
    refine kR follows_any [] (by rfl) ?_ ?_
    · ((repeat' apply And.intro) <;> first | trivial | omega | (simp only [List.length_nil, List.length_cons]; omega) | (intro hgd; first | (rw [hgd]; rfl) | (refine ⟨?_, by repeat (first | exact trivial | refine ⟨hgd, ?_⟩)⟩; (repeat' apply And.intro) <;> first | trivial | omega | (intro h2; rw [hgd, h2]; rfl) | skip)) | skip)
    (repeat (first | apply kS | apply kB | apply kL | apply kN | (refine kR follows_any [] (by rfl) ?_ ?_; first | exact kT1 | exact kT2 | exact kT3 | exact kT4)))
    refine AK.ret ⟨_, rfl, ?_⟩
    show AV.bool _ = AV.bool _
    refine congrArg AV.bool ?_
    rw [wdB, allB_true hno, Bool.eq_iff_iff]
    by_cases hz : s = ByteArray.empty
    · have h0 := (sz0 s).1 hz
      have hz' : s = ⟨#[]⟩ := hz
      simp [hz', ByteArray.size]
    · have h1 : 1 ≤ s.size := by have := mt (sz0 s).2 hz; omega
      have hz' : ¬ s = ⟨#[]⟩ := hz
      simp [hz, h1]
      try first | exact hz' | exact ⟨fun h => by have := h.2; omega, fun h => ⟨hz', by omega⟩⟩
theorem parse1_a (s : ByteArray) (hs : s.size ≤ 140737488355328) : AC Tryz.prog 52 [.str s] (.bool (!wdB s)) := by
  have h := word_a s hs
  refine AC.enter Tryz.func52 a_path_Parse_1_ok a_path_Parse_1_cb (by rfl) fun E hE => ?_
  show AK _ _ _ [.c b_path_Parse_1] _ _
  rw [b_path_Parse_1]
  (repeat (first | apply kS | apply kB | apply kL | apply kN | (refine kR follows_any [] (by rfl) ?_ ?_; first | exact kT1 | exact kT2 | exact kT3 | exact kT4)))
  refine kR follows_any [.v (.bool (wdB s))] (by rfl) ?_ ?_
  · ((repeat' apply And.intro) <;> first | trivial | omega | (simp only [List.length_nil, List.length_cons]; omega) | (intro hgd; first | (rw [hgd]; rfl) | (refine ⟨?_, by repeat (first | exact trivial | refine ⟨hgd, ?_⟩)⟩; (repeat' apply And.intro) <;> first | trivial | omega | (intro h2; rw [hgd, h2]; rfl) | skip)) | skip)
  (repeat (first | apply kS | apply kB | apply kL | apply kN | (refine kR follows_any [] (by rfl) ?_ ?_; first | exact kT1 | exact kT2 | exact kT3 | exact kT4)))
  refine AK.ret ⟨_, rfl, ?_⟩
  rfl
theorem digit_a (c : Nat) : AC Tryz.prog 84 [.int .u8 c] (.bool (decide (48 ≤ c) && decide (c ≤ 57))) := by
  refine AC.enter Tryz.func84 a_scalar_digit_ok a_scalar_digit_cb (by rfl) fun E hE => ?_
  show AK _ _ _ [.c b_scalar_digit] _ _
  rw [b_scalar_digit]
  (repeat (first | apply kS | apply kB | apply kL | apply kN | (refine kR follows_any [] (by rfl) ?_ ?_; first | exact kT1 | exact kT2 | exact kT3 | exact kT4)))
  refine kR follows_any [] (by rfl) ?_ ?_
  · ((repeat' apply And.intro) <;> first | trivial | omega | (simp only [List.length_nil, List.length_cons]; omega) | (intro hgd; first | (rw [hgd]; rfl) | (refine ⟨?_, by repeat (first | exact trivial | refine ⟨hgd, ?_⟩)⟩; (repeat' apply And.intro) <;> first | trivial | omega | (intro h2; rw [hgd, h2]; rfl) | skip)) | skip)
  (repeat (first | apply kS | apply kB | apply kL | apply kN | (refine kR follows_any [] (by rfl) ?_ ?_; first | exact kT1 | exact kT2 | exact kT3 | exact kT4)))
  refine AK.ret ⟨_, rfl, ?_⟩
  refine congrArg AV.bool ?_
  rw [Bool.eq_iff_iff]
  simp
  try omega
/-- does s begin with p? -/
def hasB (s p : ByteArray) : Bool := decide (p.size ≤ s.size) && decide (s.extract 0 p.size = p)
theorem hasIn_a (s p : ByteArray) : AC Tryz.prog 60 [.str s, .str p] (.bool (hasB s p)) := by
  refine AC.enter Tryz.func60 a_stringslite_HasPrefix_ok a_stringslite_HasPrefix_cb (by rfl) fun E hE => ?_
  show AK _ _ _ [.c b_stringslite_HasPrefix] _ _
  rw [b_stringslite_HasPrefix]
  (repeat (first | apply kS | apply kB | apply kL | apply kN | (refine kR follows_any [] (by rfl) ?_ ?_; first | exact kT1 | exact kT2 | exact kT3 | exact kT4)))
  refine kR follows_any [] (by rfl) ?_ ?_
  · ((repeat' apply And.intro) <;> first | trivial | omega | (simp only [List.length_nil, List.length_cons]; omega) | (intro hgd; first | (rw [hgd]; rfl) | (refine ⟨?_, by repeat (first | exact trivial | refine ⟨hgd, ?_⟩)⟩; (repeat' apply And.intro) <;> first | trivial | omega | (intro h2; rw [hgd, h2]; rfl) | skip)) | skip)
    simpa [gd] using hgd
  (repeat (first | apply kS | apply kB | apply kL | apply kN | (refine kR follows_any [] (by rfl) ?_ ?_; first | exact kT1 | exact kT2 | exact kT3 | exact kT4)))
  refine AK.ret ⟨_, rfl, ?_⟩
  refine congrArg AV.bool ?_
  rw [hasB]
  simp
theorem has_a (s p : ByteArray) : AC Tryz.prog 40 [.str s, .str p] (.bool (hasB s p)) := by
  have h := hasIn_a s p
  refine AC.enter Tryz.func40 a_strings_HasPrefix_ok a_strings_HasPrefix_cb (by rfl) fun E hE => ?_
  show AK _ _ _ [.c b_strings_HasPrefix] _ _
  rw [b_strings_HasPrefix]
  (repeat (first | apply kS | apply kB | apply kL | apply kN | (refine kR follows_any [] (by rfl) ?_ ?_; first | exact kT1 | exact kT2 | exact kT3 | exact kT4)))
  refine kR follows_any [.v (.bool (hasB s p))] (by rfl) ?_ ?_
  · ((repeat' apply And.intro) <;> first | trivial | omega | (simp only [List.length_nil, List.length_cons]; omega) | (intro hgd; first | (rw [hgd]; rfl) | (refine ⟨?_, by repeat (first | exact trivial | refine ⟨hgd, ?_⟩)⟩; (repeat' apply And.intro) <;> first | trivial | omega | (intro h2; rw [hgd, h2]; rfl) | skip)) | skip)
  (repeat (first | apply kS | apply kB | apply kL | apply kN | (refine kR follows_any [] (by rfl) ?_ ?_; first | exact kT1 | exact kT2 | exact kT3 | exact kT4)))
  refine AK.ret ⟨_, rfl, ?_⟩
  rfl
/-- s without p ahead, if it begins so -/
def cutS (s p : ByteArray) : ByteArray := if hasB s p = true then s.extract p.size s.size else s
theorem trimIn_a (s p : ByteArray) : AC Tryz.prog 99 [.str s, .str p] (.str (cutS s p)) := by
  have h := hasIn_a s p
  refine AC.enter Tryz.func99 a_stringslite_TrimPrefix_ok a_stringslite_TrimPrefix_cb (by rfl) fun E hE => ?_
  show AK _ _ _ [.c b_stringslite_TrimPrefix] _ _
  rw [b_stringslite_TrimPrefix]
  (repeat (first | apply kS | apply kB | apply kL | apply kN | (refine kR follows_any [] (by rfl) ?_ ?_; first | exact kT1 | exact kT2 | exact kT3 | exact kT4)))
  refine kR follows_any [.v (.bool (hasB s p))] (by rfl) ?_ ?_
  · ((repeat' apply And.intro) <;> first | trivial | omega | (simp only [List.length_nil, List.length_cons]; omega) | (intro hgd; first | (rw [hgd]; rfl) | (refine ⟨?_, by repeat (first | exact trivial | refine ⟨hgd, ?_⟩)⟩; (repeat' apply And.intro) <;> first | trivial | omega | (intro h2; rw [hgd, h2]; rfl) | skip)) | skip)
  refine AK.cond (by rfl) (fun hb => ?_) (fun hb => ?_)
  · have hf : hasB s p = true := by simpa using hb
    have hle : p.size ≤ s.size := by
      simp only [hasB, Bool.and_eq_true, decide_eq_true_eq] at hf
      exact hf.1
    (repeat (first | apply kS | apply kB | apply kL | apply kN | (refine kR follows_any [] (by rfl) ?_ ?_; first | exact kT1 | exact kT2 | exact kT3 | exact kT4)))
    refine kR follows_any [] (by rfl) ?_ ?_
    · ((repeat' apply And.intro) <;> first | trivial | omega | (simp only [List.length_nil, List.length_cons]; omega) | (intro hgd; first | (rw [hgd]; rfl) | (refine ⟨?_, by repeat (first | exact trivial | refine ⟨hgd, ?_⟩)⟩; (repeat' apply And.intro) <;> first | trivial | omega | (intro h2; rw [hgd, h2]; rfl) | skip)) | skip)
    (repeat (first | apply kS | apply kB | apply kL | apply kN | (refine kR follows_any [] (by rfl) ?_ ?_; first | exact kT1 | exact kT2 | exact kT3 | exact kT4)))
    refine AK.ret ⟨_, rfl, ?_⟩
    rw [cutS, if_pos hf]
    rfl
  · have hf : hasB s p = false := by simpa using hb
    (repeat (first | apply kS | apply kB | apply kL | apply kN | (refine kR follows_any [] (by rfl) ?_ ?_; first | exact kT1 | exact kT2 | exact kT3 | exact kT4)))
    refine AK.ret ⟨_, rfl, ?_⟩
    rw [cutS, hf]
    rfl
theorem trim_a (s p : ByteArray) : AC Tryz.prog 83 [.str s, .str p] (.str (cutS s p)) := by
  have h := trimIn_a s p
  refine AC.enter Tryz.func83 a_strings_TrimPrefix_ok a_strings_TrimPrefix_cb (by rfl) fun E hE => ?_
  show AK _ _ _ [.c b_strings_TrimPrefix] _ _
  rw [b_strings_TrimPrefix]
  (repeat (first | apply kS | apply kB | apply kL | apply kN | (refine kR follows_any [] (by rfl) ?_ ?_; first | exact kT1 | exact kT2 | exact kT3 | exact kT4)))
  refine kR follows_any [.v (.str (cutS s p))] (by rfl) ?_ ?_
  · ((repeat' apply And.intro) <;> first | trivial | omega | (simp only [List.length_nil, List.length_cons]; omega) | (intro hgd; first | (rw [hgd]; rfl) | (refine ⟨?_, by repeat (first | exact trivial | refine ⟨hgd, ?_⟩)⟩; (repeat' apply And.intro) <;> first | trivial | omega | (intro h2; rw [hgd, h2]; rfl) | skip)) | skip)
  (repeat (first | apply kS | apply kB | apply kL | apply kN | (refine kR follows_any [] (by rfl) ?_ ?_; first | exact kT1 | exact kT2 | exact kT3 | exact kT4)))
  refine AK.ret ⟨_, rfl, ?_⟩
  rfl
def okD (c : UInt8) : Bool := decide (48 ≤ c.toNat) && decide (c.toNat ≤ 57)
/-- digits, with a minus ahead or not -/
def numB (s : ByteArray) : Bool := allB okD (cutS s ⟨#[45]⟩) && decide (1 ≤ (cutS s ⟨#[45]⟩).size)
theorem cutS_size (s p : ByteArray) : (cutS s p).size ≤ s.size := by
  unfold cutS
  split
  · rw [ByteArray.size_extract]; omega
  · omega
theorem number_a (s : ByteArray) (hs : s.size ≤ 140737488355328) : AC Tryz.prog 65 [.str s] (.bool (numB s)) := by
  have h := trim_a s ⟨#[45]⟩
  have hz := cutS_size s ⟨#[45]⟩
  have hn : numB s = (allB okD (cutS s ⟨#[45]⟩) && decide (1 ≤ (cutS s ⟨#[45]⟩).size)) := rfl
  refine AC.enter Tryz.func65 a_scalar_number_ok a_scalar_number_cb (by rfl) fun E hE => ?_
  show AK _ _ _ [.c b_scalar_number] _ _
  rw [b_scalar_number]
  (repeat (first | apply kS | apply kB | apply kL | apply kN | (refine kR follows_any [] (by rfl) ?_ ?_; first | exact kT1 | exact kT2 | exact kT3 | exact kT4)))
  refine kR follows_any [.v (.str (cutS s ⟨#[45]⟩))] (by rfl) ?_ ?_
  · ((repeat' apply And.intro) <;> first | trivial | omega | (simp only [List.length_nil, List.length_cons]; omega) | (intro hgd; first | (rw [hgd]; rfl) | (refine ⟨?_, by repeat (first | exact trivial | refine ⟨hgd, ?_⟩)⟩; (repeat' apply And.intro) <;> first | trivial | omega | (intro h2; rw [hgd, h2]; rfl) | skip)) | skip)
  generalize cutS s ⟨#[45]⟩ = s at *
  (repeat (first | apply kS | apply kB | apply kL | apply kN | (refine kR follows_any [] (by rfl) ?_ ?_; first | exact kT1 | exact kT2 | exact kT3 | exact kT4)))
  refine AK.loopI (fun k : Nat => (frOf [(0, .str s), (7, .int .i64 s.size), (8, .int .i64 k)], ⟨boxOf [], fun _ => 0⟩)) (fun k => k ≤ s.size ∧ allTo okD s k) (fun k => s.size - k) 0 ⟨by omega, allTo_zero _ _⟩ (Weak.intro ⟨⟨_, rfl, .refl _⟩, ⟨_, rfl, .refl _⟩, ⟨_, rfl, .refl _⟩, trivial⟩ trivial rfl rfl) fun k ⟨hk, hno⟩ => ?_
  (repeat (first | apply kS | apply kB | apply kL | apply kN | (refine kR follows_any [] (by rfl) ?_ ?_; first | exact kT1 | exact kT2 | exact kT3 | exact kT4)))
  refine AK.cond (by rfl) (fun hb => ?_) (fun hb => ?_)
  · have hlt : k < s.size := by simpa using hb
    have hd := digit_a s[k].toNat
    (repeat (first | apply kS | apply kB | apply kL | apply kN | (refine kR follows_any [] (by rfl) ?_ ?_; first | exact kT1 | exact kT2 | exact kT3 | exact kT4)))
    refine kR follows_any [.v (.bool (okD s[k]))] (by rfl) ?_ ?_
    · ((repeat' apply And.intro) <;> first | trivial | omega | (simp only [List.length_nil, List.length_cons]; omega) | (intro hgd; first | (rw [hgd]; rfl) | (refine ⟨?_, by repeat (first | exact trivial | refine ⟨hgd, ?_⟩)⟩; (repeat' apply And.intro) <;> first | trivial | omega | (intro h2; rw [hgd, h2]; rfl) | skip)) | skip)
      rw [show s.data.getD (k : Int).toNat 0 = s[k] from byte_at hlt]
      exact hd
    refine AK.cond (by rfl) (fun hb => ?_) (fun hb => ?_)
    · have hf : okD s[k] = false := by simpa using hb
      (repeat (first | apply kS | apply kB | apply kL | apply kN | (refine kR follows_any [] (by rfl) ?_ ?_; first | exact kT1 | exact kT2 | exact kT3 | exact kT4)))
      refine AK.ret ⟨_, rfl, ?_⟩
      rw [hn, allB_false hlt hf]
      rfl
    · have ht : okD s[k] = true := by simpa using hb
      (repeat (first | apply kS | apply kB | apply kL | apply kN | (refine kR follows_any [] (by rfl) ?_ ?_; first | exact kT1 | exact kT2 | exact kT3 | exact kT4)))
      exact AK.lp ⟨k + 1, ⟨by omega, allTo_succ hno hlt ht⟩, Weak.intro ⟨⟨_, rfl, .refl _⟩, ⟨_, rfl, .refl _⟩, ⟨_, rfl, .of_eq (congrArg _ (by first | omega | (rw [wrap_in (by omega) (by omega)]; omega)))⟩, trivial⟩ trivial rfl rfl, by omega⟩
  · have hlt : k = s.size := by have : s.size ≤ k := by simpa using hb
                                omega
    subst hlt
    refine AK.exit rfl ?_
    (repeat (first | apply kS | apply kB | apply kL | apply kN | (refine kR follows_any [] (by rfl) ?_ ?_; first | exact kT1 | exact kT2 | exact kT3 | exact kT4)))
    refine AK.ret ⟨_, rfl, ?_⟩
    show AV.bool _ = AV.bool _
    refine congrArg AV.bool ?_
    rw [hn, allB_true hno, Bool.eq_iff_iff]
    by_cases hz : s = ByteArray.empty
    · have h0 := (sz0 s).1 hz
      have hz' : s = ⟨#[]⟩ := hz
      simp [hz', ByteArray.size]
    · have h1 : 1 ≤ s.size := by have := mt (sz0 s).2 hz; omega
      have hz' : ¬ s = ⟨#[]⟩ := hz
      simp [hz, h1]
      try first | exact hz' | exact ⟨fun h => by have := h.2; omega, fun h => ⟨hz', by omega⟩⟩
/-- where the first one that isn't a step stands -/
def badAt : List ByteArray → Nat → Int
  | [], _ => -1
  | s :: l, k => if wdB s = false then k else badAt l (k + 1)
theorem badAt_neg (l : List ByteArray) (k : Nat) : badAt l k = -1 ∧ l.all wdB = true ∨ 0 ≤ badAt l k ∧ l.all wdB = false := by
  induction l generalizing k with
  | nil => exact .inl ⟨rfl, rfl⟩
  | cons s l ih =>
    rw [badAt]
    by_cases h : wdB s = false
    · rw [if_pos h]; exact .inr ⟨by omega, by simp [h]⟩
    · rw [if_neg h]
      have h' : wdB s = true := by simpa using h
      rcases ih (k + 1) with ⟨h1, h2⟩ | ⟨h1, h2⟩
      · exact .inl ⟨h1, by simp [h', h2]⟩
      · exact .inr ⟨h1, by simp only [List.all_cons, h2, Bool.and_false]⟩
theorem badAt_drop {l : List ByteArray} {k : Nat} {s : ByteArray} (h : l[k]? = some s) : badAt (l.drop k) k = if wdB s = false then (k : Int) else badAt (l.drop (k + 1)) (k + 1) := by
  rw [List.drop_eq_getElem_cons (List.getElem?_eq_some_iff.1 h).1, badAt, (List.getElem?_eq_some_iff.1 h).2]
theorem indexFn_a (l : List ByteArray) (hl : l.length ≤ 2000000000000) (hs : ∀ s ∈ l, s.size ≤ 140737488355328) : AC Tryz.prog 75 [.lst .any 1 (rowsP l), .fn 52 []] (.int .i64 (badAt l 0)) := by
  refine AC.enter Tryz.func75 a_slices_IndexFunc_string_ok a_slices_IndexFunc_string_cb (by rfl) fun E hE => ?_
  show AK _ _ _ [.c b_slices_IndexFunc_string] _ _
  rw [b_slices_IndexFunc_string]
  (repeat (first | apply kS | apply kB | apply kL | apply kN | (refine kR follows_any [] (by rfl) ?_ ?_; first | exact kT1 | exact kT2 | exact kT3 | exact kT4)))
  refine AK.loopI (fun k : Nat => (frOf [(0, .lst .any 1 (rowsP l)), (1, .fn 52 []), (7, .int .i64 (rowsP l).length), (8, .int .i64 k)], ⟨boxOf [], fun _ => 0⟩)) (fun k => k ≤ l.length ∧ badAt (l.drop k) k = badAt l 0) (fun k => l.length - k) 0 ⟨by omega, rfl⟩ (Weak.intro ⟨⟨_, rfl, .refl _⟩, ⟨_, rfl, .refl _⟩, ⟨_, rfl, .refl _⟩, ⟨_, rfl, .refl _⟩, trivial⟩ trivial rfl rfl) fun k ⟨hk, hr⟩ => ?_
  (repeat (first | apply kS | apply kB | apply kL | apply kN | (refine kR follows_any [] (by rfl) ?_ ?_; first | exact kT1 | exact kT2 | exact kT3 | exact kT4)))
  refine AK.cond (by rfl) (fun hb => ?_) (fun hb => ?_)
  · have hlt : k < l.length := by simpa [rowsP_len] using hb
    obtain ⟨s, hg⟩ : ∃ x, l[k]? = some x := ⟨_, List.getElem?_eq_getElem hlt⟩
    have hp := parse1_a s (hs s (List.mem_of_getElem? hg))
    rw [badAt_drop hg] at hr
    have hll := rowsP_len l
    (repeat (first | apply kS | apply kB | apply kL | apply kN | (refine kR follows_any [] (by rfl) ?_ ?_; first | exact kT1 | exact kT2 | exact kT3 | exact kT4)))
    refine kR follows_any [.c [.str s], .v (.bool (!wdB s))] (by rfl) ?_ ?_
    · ((repeat' apply And.intro) <;> first | trivial | omega | (simp only [List.length_nil, List.length_cons]; omega) | (intro hgd; first | (rw [hgd]; rfl) | (refine ⟨?_, by repeat (first | exact trivial | refine ⟨hgd, ?_⟩)⟩; (repeat' apply And.intro) <;> first | trivial | omega | (intro h2; rw [hgd, h2]; rfl) | skip)) | skip)
      exact rowsP_at hg
    refine AK.cond (by rfl) (fun hb => ?_) (fun hb => ?_)
    · have hf : wdB s = false := by simpa using hb
      rw [if_pos hf] at hr
      (repeat (first | apply kS | apply kB | apply kL | apply kN | (refine kR follows_any [] (by rfl) ?_ ?_; first | exact kT1 | exact kT2 | exact kT3 | exact kT4)))
      refine AK.ret ⟨_, rfl, ?_⟩
      exact congrArg (AV.int _) hr
    · have hf : ¬ wdB s = false := by simpa using hb
      rw [if_neg hf] at hr
      (repeat (first | apply kS | apply kB | apply kL | apply kN | (refine kR follows_any [] (by rfl) ?_ ?_; first | exact kT1 | exact kT2 | exact kT3 | exact kT4)))
      exact AK.lp ⟨k + 1, ⟨by omega, hr⟩, Weak.intro ⟨⟨_, rfl, .refl _⟩, ⟨_, rfl, .refl _⟩, ⟨_, rfl, .refl _⟩, ⟨_, rfl, .of_eq (congrArg _ (by first | omega | (rw [wrap_in (by omega) (by omega)]; omega)))⟩, trivial⟩ trivial rfl rfl, by omega⟩
  · have hlt : k = l.length := by have : l.length ≤ k := by simpa [rowsP_len] using hb
                                  omega
    subst hlt
    refine AK.exit rfl ?_
    (repeat (first | apply kS | apply kB | apply kL | apply kN | (refine kR follows_any [] (by rfl) ?_ ?_; first | exact kT1 | exact kT2 | exact kT3 | exact kT4)))
    refine AK.ret ⟨_, rfl, ?_⟩
    rw [← hr, List.drop_length]
    rfl
theorem contains_a (l : List ByteArray) (hl : l.length ≤ 2000000000000) (hs : ∀ s ∈ l, s.size ≤ 140737488355328) : AC Tryz.prog 51 [.lst .any 1 (rowsP l), .fn 52 []] (.bool (!l.all wdB)) := by
  have h := indexFn_a l hl hs
  refine AC.enter Tryz.func51 a_slices_ContainsFunc_string_ok a_slices_ContainsFunc_string_cb (by rfl) fun E hE => ?_
  show AK _ _ _ [.c b_slices_ContainsFunc_string] _ _
  rw [b_slices_ContainsFunc_string]
  (repeat (first | apply kS | apply kB | apply kL | apply kN | (refine kR follows_any [] (by rfl) ?_ ?_; first | exact kT1 | exact kT2 | exact kT3 | exact kT4)))
  refine kR follows_any [.v (.int .i64 (badAt l 0))] (by rfl) ?_ ?_
  · ((repeat' apply And.intro) <;> first | trivial | omega | (simp only [List.length_nil, List.length_cons]; omega) | (intro hgd; first | (rw [hgd]; rfl) | (refine ⟨?_, by repeat (first | exact trivial | refine ⟨hgd, ?_⟩)⟩; (repeat' apply And.intro) <;> first | trivial | omega | (intro h2; rw [hgd, h2]; rfl) | skip)) | skip)
  (repeat (first | apply kS | apply kB | apply kL | apply kN | (refine kR follows_any [] (by rfl) ?_ ?_; first | exact kT1 | exact kT2 | exact kT3 | exact kT4)))
  refine AK.ret ⟨_, rfl, ?_⟩
  refine congrArg AV.bool ?_
  rcases badAt_neg l 0 with ⟨h1, h2⟩ | ⟨h1, h2⟩
  · rw [h1, h2]; rfl
  · rw [h2, Bool.not_false]; exact decide_eq_true h1
end Go.Proofs.YtfnpjakekeojoaaGreatDoor
/-
  Texts in quotes: what is read of them, walked.
-/
namespace Go.Proofs.YtfnpjakekeojoaaGreatDoor
set_option linter.unusedSimpArgs false
set_option linter.unusedVariables false
open Go.RowKit

/-- what stands in double quotes, and behind them -/
def dbl : List UInt8 → List UInt8 → Option (List UInt8 × List UInt8)
  | [], _ => none
  | c :: l, out => if c = 34 then some (out, l) else if c = 92 then (match l with
    | [] => none
    | d :: l => if d = 110 then dbl l (out ++ [10]) else if d = 116 then dbl l (out ++ [9]) else if d = 34 ∨ d = 92 then dbl l (out ++ [d]) else none)
    else if c = 10 ∨ c = 9 then none else dbl l (out ++ [c])
/-- what stands in single quotes, and behind them -/
def sgl : List UInt8 → List UInt8 → Option (List UInt8 × List UInt8)
  | [], _ => none
  | c :: l, out => if c = 39 then (match l with
    | [] => some (out, [])
    | d :: l' => if d = 39 then sgl l' (out ++ [39]) else some (out, d :: l'))
    else sgl l (out ++ [c])
theorem dbl_cons (c : UInt8) (l out : List UInt8) : dbl (c :: l) out = if c = 34 then some (out, l) else if c = 92 then (match l with
    | [] => none
    | d :: l => if d = 110 then dbl l (out ++ [10]) else if d = 116 then dbl l (out ++ [9]) else if d = 34 ∨ d = 92 then dbl l (out ++ [d]) else none)
    else if c = 10 ∨ c = 9 then none else dbl l (out ++ [c]) := by
  cases l <;> simp only [dbl]
theorem sgl_cons (c : UInt8) (l out : List UInt8) : sgl (c :: l) out = if c = 39 then (match l with
    | [] => some (out, [])
    | d :: l' => if d = 39 then sgl l' (out ++ [39]) else some (out, d :: l'))
    else sgl l (out ++ [c]) := by
  cases l <;> simp only [sgl]
/-- a reading's answer -/
def qV : Option (List UInt8 × List UInt8) → Value
  | none => .tuple #[.string ⟨#[]⟩, .string ⟨#[]⟩, .int .i64 11]
  | some (a, b) => .tuple #[.string ⟨a.toArray⟩, .string ⟨b.toArray⟩, .int .i64 0]
def qA : Option (List UInt8 × List UInt8) → AV
  | none => .tup [.str ⟨#[]⟩, .str ⟨#[]⟩, .int .i64 11]
  | some (a, b) => .tup [.str ⟨a.toArray⟩, .str ⟨b.toArray⟩, .int .i64 0]
theorem byte_drop {s : ByteArray} {k : Nat} (h : k < s.size) : s.data.toList.drop k = s[k] :: s.data.toList.drop (k + 1) := by
  have h2 : k < s.data.toList.length := h
  rw [List.drop_eq_getElem_cons h2]
  rfl
theorem byte_drop_end (s : ByteArray) : s.data.toList.drop s.size = [] := by
  rw [List.drop_eq_nil_iff]; exact Nat.le_refl _
theorem ext_end (s : ByteArray) (k : Nat) : s.extract k s.size = ⟨(s.data.toList.drop k).toArray⟩ := by
  rw [Lib.extract_eq, List.take_of_length_le]
  rw [List.length_drop]
  exact Nat.le_refl _
theorem cells_snoc (l : List UInt8) (c : UInt8) : Lib.byteCells (l ++ [c]) = Lib.byteCells l ++ [.int .u8 c.toNat] := by simp [Lib.byteCells]
/-- a world of a class -/
structure WdC (C : World → Prop) where
  w : World
  h : C w
theorem wp_region_quietC {P : Program} {id : Nat} {Q : Exit → Act → World → Prop} {a : Act} {w : World} {l : List Oper} (C : World → Prop) (hm : P.follows .mixedOrders = true) (hB : Region.lexB .any l.toArray = true) (hC : C { w with drawn := w.drawn + 1 })
    (h : wpQuiet P l.toArray (fun w' => ∃ p : WdC C, w' = p.w) (fun a' => ∀ w', (∃ p : WdC C, w' = p.w) → Q .normal a' w') l a) : (Code.region id l.toArray true).wp P Q a w :=
  wp_region_quiet (C := fun w' => ∃ p : WdC C, w' = p.w) hm hB ⟨⟨_, hC⟩, rfl⟩ (by simpa using h)
set_option maxRecDepth 100000 in
theorem double_any (s : ByteArray) (hs : s.size ≤ 1000000) (h1s : 1 ≤ s.size) (R : Option (List UInt8 × List UInt8)) (hR : dbl (s.data.toList.drop 1) [] = R) (w : World) : Calls Tryz.prog 61 #[.string s] w fun e w' => e = .returned (qV R) ∧ Below w.heap.size w w' := by
  have hR := Lib.hid hR
  go_enter Tryz.func61, Tryz.ntmps61
  go_wp2_with fail
  go_loopw [6] (fun i wr => ∃ (k : Nat) (out : List UInt8), k ≤ s.size ∧ out.length ≤ k ∧ i = .int .i64 k ∧ Lib.IsBuilder 94 5 w.heap.size w.heap.size (Lib.byteCells out) wr ∧ Below w.heap.size w wr ∧ Hid (dbl (s.data.toList.drop k) out = R)) (fun i _ => s.size - (intOf i).toNat)
  case atStart => exact ⟨1, [], by omega, by simp, rfl, Lib.fresh_isBuilder 94 5 w, (Below.refl _ _).alloc (Nat.le_refl _) _, hR⟩
  case round =>
    obtain ⟨k, out, hk, hol, rfl, hB, hW, hD⟩ := hrel
    have hbs : (Lib.byteCells out).length = out.length := List.length_map _
    have hBw : w.heap.size ≤ wr.heap.size := hW.size
    by_cases hlt : k < s.size
    · have c256 : s[k].toNat < 256 := s[k].toNat_lt
      have hst := hD.out
      rw [byte_drop hlt, dbl_cons] at hst
      clear hD
      by_cases h34 : s[k] = 34
      · have t1 : ((s[k].toNat : Int) == 34) = true := by rw [h34]; rfl
        rw [if_pos h34] at hst
        clear h34
        have hst := Lib.hid hst
        go_wp2_with fail
        obtain ⟨C, hCd⟩ : ∃ C : World → Prop, C = fun w' => Lib.IsBuilderF 94 5 w.heap.size w.heap.size (Lib.byteCells out) w' ∧ Below w.heap.size w w' := ⟨_, rfl⟩
        have hC0 : C { wr with drawn := wr.drawn + 1 } := by
          rw [hCd]
          exact ⟨Lib.IsBuilderF.of (hB.elim (fun h => .inl h.drew) (fun h => .inr h.drew)), hW.drew⟩
        have cW : ∀ w', C w' → Calls Tryz.prog 81 #[.pointer (some ⟨w.heap.size, 0, none⟩)] w' fun e w'' => e = .returned (.string ⟨out.toArray⟩) ∧ C w'' := fun w' h => by
          rw [hCd] at h ⊢
          refine (Tryz.Builder_String_any_f w.heap.size w.heap.size out w' h.1 h.2.size).mono ?_
          rintro e w'' ⟨rfl, h1, h2⟩
          exact ⟨rfl, h1, h.2.trans h2⟩
        have cX : ∀ p : WdC C, Calls Tryz.prog 81 #[.pointer (some ⟨w.heap.size, 0, none⟩)] p.w fun e w'' => e = .returned (.string ⟨out.toArray⟩) ∧ ∃ q : WdC C, w'' = q.w := fun p => (cW p.w p.h).mono fun e w'' h => ⟨h.1, ⟨w'', h.2⟩, rfl⟩
        haveI : Nonempty (WdC C) := ⟨⟨_, hC0⟩⟩
        have HC := Lib.hid hCd
        clear hCd
        refine wp_region_quietC C (by kernel_rfl) (by kernel_rfl) hC0 ?_
        repeat (go_big_quiet_step (first | exact cX _))
        refine wpQuiet_nil ?_
        rintro _ ⟨⟨w2, hw2⟩, rfl⟩
        clear cW cX
        rw [HC.out] at hw2
        clear HC
        go_wp2
        go_ret3
        exact ⟨by rw [← hst.out, qV, ← ext_end]; rfl, hw2.2⟩
      have t1 : ((s[k].toNat : Int) == 34) = false := by rw [beq_eq_false_iff_ne]; exact fun e => h34 (UInt8.toNat_inj.1 (show s[k].toNat = 34 by omega))
      rw [if_neg h34] at hst
      clear h34
      by_cases h92 : s[k] = 92
      · have t2 : ((s[k].toNat : Int) == 92) = true := by rw [h92]; rfl
        rw [if_pos h92] at hst
        clear h92
        by_cases he : k + 1 = s.size
        · rw [he, byte_drop_end] at hst
          have he' : ((k : Int) + 1 == s.size) = true := beq_iff_eq.2 (by omega)
          have hst := Lib.hid hst
          go_wp2_with fail
          go_ret3
          exact ⟨by rw [← hst.out]; rfl, hW⟩
        · have he' : ((k : Int) + 1 == s.size) = false := beq_eq_false_iff_ne.2 (by omega)
          have hlt2 : k + 1 < s.size := by omega
          rw [byte_drop hlt2] at hst
          have d256 : s[k + 1].toNat < 256 := s[k + 1].toNat_lt
          by_cases d110 : s[k + 1] = 110
          · have u1 : ((s[k + 1].toNat : Int) == 110) = true := by rw [d110]; rfl
            dsimp only at hst
            rw [if_pos d110] at hst
            clear d110
            have hst := Lib.hid hst
            go_wp2_with fail
            refine (Tryz.writeByte_h w.heap.size w.heap.size _ 10 wr hB (by omega) hBw).mono ?_
            rintro e w2 ⟨rfl, h2, b2⟩
            go_wp2
            go_roundw
            case rel => exact ⟨k + 2, out ++ [10], by omega, by rw [List.length_append, List.length_singleton]; omega, by go_num, .inr (by rw [cells_snoc]; exact h2), hW.trans b2, hst⟩
            case measure => simp [intOf]; omega
          have u1 : ((s[k + 1].toNat : Int) == 110) = false := by rw [beq_eq_false_iff_ne]; exact fun e => d110 (UInt8.toNat_inj.1 (show s[k + 1].toNat = 110 by omega))
          dsimp only at hst
          rw [if_neg d110] at hst
          clear d110
          by_cases d116 : s[k + 1] = 116
          · have u2 : ((s[k + 1].toNat : Int) == 116) = true := by rw [d116]; rfl
            rw [if_pos d116] at hst
            clear d116
            have hst := Lib.hid hst
            go_wp2_with fail
            refine (Tryz.writeByte_h w.heap.size w.heap.size _ 9 wr hB (by omega) hBw).mono ?_
            rintro e w2 ⟨rfl, h2, b2⟩
            go_wp2
            go_roundw
            case rel => exact ⟨k + 2, out ++ [9], by omega, by rw [List.length_append, List.length_singleton]; omega, by go_num, .inr (by rw [cells_snoc]; exact h2), hW.trans b2, hst⟩
            case measure => simp [intOf]; omega
          have u2 : ((s[k + 1].toNat : Int) == 116) = false := by rw [beq_eq_false_iff_ne]; exact fun e => d116 (UInt8.toNat_inj.1 (show s[k + 1].toNat = 116 by omega))
          rw [if_neg d116] at hst
          clear d116
          by_cases d34 : s[k + 1] = 34
          · have u3 : ((s[k + 1].toNat : Int) == 34) = true := by rw [d34]; rfl
            rw [if_pos (.inl d34)] at hst
            clear d34
            have hst := Lib.hid hst
            go_wp2_with fail
            refine (Tryz.writeByte_h w.heap.size w.heap.size _ s[k + 1].toNat wr hB (by omega) hBw).mono ?_
            rintro e w2 ⟨rfl, h2, b2⟩
            go_wp2
            go_roundw
            case rel => exact ⟨k + 2, out ++ [s[k + 1]], by omega, by rw [List.length_append, List.length_singleton]; omega, by go_num, .inr (by rw [cells_snoc]; exact h2), hW.trans b2, hst⟩
            case measure => simp [intOf]; omega
          have u3 : ((s[k + 1].toNat : Int) == 34) = false := by rw [beq_eq_false_iff_ne]; exact fun e => d34 (UInt8.toNat_inj.1 (show s[k + 1].toNat = 34 by omega))
          by_cases d92 : s[k + 1] = 92
          · have u4 : ((s[k + 1].toNat : Int) == 92) = true := by rw [d92]; rfl
            rw [if_pos (.inr d92)] at hst
            clear d92 d34
            have hst := Lib.hid hst
            go_wp2_with fail
            refine (Tryz.writeByte_h w.heap.size w.heap.size _ s[k + 1].toNat wr hB (by omega) hBw).mono ?_
            rintro e w2 ⟨rfl, h2, b2⟩
            go_wp2
            go_roundw
            case rel => exact ⟨k + 2, out ++ [s[k + 1]], by omega, by rw [List.length_append, List.length_singleton]; omega, by go_num, .inr (by rw [cells_snoc]; exact h2), hW.trans b2, hst⟩
            case measure => simp [intOf]; omega
          have u4 : ((s[k + 1].toNat : Int) == 92) = false := by rw [beq_eq_false_iff_ne]; exact fun e => d92 (UInt8.toNat_inj.1 (show s[k + 1].toNat = 92 by omega))
          rw [if_neg (fun e => e.elim d34 d92)] at hst
          clear d34 d92
          have hst := Lib.hid hst
          go_wp2_with fail
          go_ret3
          exact ⟨by rw [← hst.out]; rfl, hW⟩
      have t2 : ((s[k].toNat : Int) == 92) = false := by rw [beq_eq_false_iff_ne]; exact fun e => h92 (UInt8.toNat_inj.1 (show s[k].toNat = 92 by omega))
      rw [if_neg h92] at hst
      clear h92
      by_cases h10 : s[k] = 10
      · have t3 : ((s[k].toNat : Int) == 10) = true := by rw [h10]; rfl
        rw [if_pos (.inl h10)] at hst
        clear h10
        have hst := Lib.hid hst
        go_wp2_with fail
        go_ret3
        exact ⟨by rw [← hst.out]; rfl, hW⟩
      have t3 : ((s[k].toNat : Int) == 10) = false := by rw [beq_eq_false_iff_ne]; exact fun e => h10 (UInt8.toNat_inj.1 (show s[k].toNat = 10 by omega))
      by_cases h9 : s[k] = 9
      · have t4 : ((s[k].toNat : Int) == 9) = true := by rw [h9]; rfl
        rw [if_pos (.inr h9)] at hst
        clear h10 h9
        have hst := Lib.hid hst
        go_wp2_with fail
        go_ret3
        exact ⟨by rw [← hst.out]; rfl, hW⟩
      have t4 : ((s[k].toNat : Int) == 9) = false := by rw [beq_eq_false_iff_ne]; exact fun e => h9 (UInt8.toNat_inj.1 (show s[k].toNat = 9 by omega))
      rw [if_neg (fun e => e.elim h10 h9)] at hst
      clear h10 h9
      have hst := Lib.hid hst
      go_wp2_with fail
      refine (Tryz.writeByte_h w.heap.size w.heap.size _ s[k].toNat wr hB (by omega) hBw).mono ?_
      rintro e w2 ⟨rfl, h2, b2⟩
      go_wp2
      go_roundw
      case rel => exact ⟨k + 1, out ++ [s[k]], by omega, by rw [List.length_append, List.length_singleton]; omega, by go_num, .inr (by rw [cells_snoc]; exact h2), hW.trans b2, hst⟩
      case measure => simp [intOf]; omega
    · have he : k = s.size := by omega
      have hst := hD.out
      rw [he, byte_drop_end] at hst
      clear hD
      subst he
      have hst := Lib.hid hst
      go_wp2_with fail
      go_ret3
      exact ⟨by rw [← hst.out]; rfl, hW⟩
set_option maxRecDepth 100000 in
theorem single_any (s : ByteArray) (hs : s.size ≤ 1000000) (h1s : 1 ≤ s.size) (R : Option (List UInt8 × List UInt8)) (hR : sgl (s.data.toList.drop 1) [] = R) (w : World) : Calls Tryz.prog 62 #[.string s] w fun e w' => e = .returned (qV R) ∧ Below w.heap.size w w' := by
  have hR := Lib.hid hR
  go_enter Tryz.func62, Tryz.ntmps62
  go_wp2_with fail
  go_loopw [6] (fun i wr => ∃ (k : Nat) (out : List UInt8), k ≤ s.size ∧ out.length ≤ k ∧ i = .int .i64 k ∧ Lib.IsBuilder 94 5 w.heap.size w.heap.size (Lib.byteCells out) wr ∧ Below w.heap.size w wr ∧ Hid (sgl (s.data.toList.drop k) out = R)) (fun i _ => s.size - (intOf i).toNat)
  case atStart => exact ⟨1, [], by omega, by simp, rfl, Lib.fresh_isBuilder 94 5 w, (Below.refl _ _).alloc (Nat.le_refl _) _, hR⟩
  case round =>
    obtain ⟨k, out, hk, hol, rfl, hB, hW, hD⟩ := hrel
    have hbs : (Lib.byteCells out).length = out.length := List.length_map _
    have hBw : w.heap.size ≤ wr.heap.size := hW.size
    by_cases hlt : k < s.size
    · have c256 : s[k].toNat < 256 := s[k].toNat_lt
      have hst := hD.out
      rw [byte_drop hlt, sgl_cons] at hst
      clear hD
      by_cases h39 : s[k] = 39
      · have t1 : ((s[k].toNat : Int) != 39) = false := by rw [h39]; rfl
        have t1' : ((s[k].toNat : Int) == 39) = true := by rw [h39]; rfl
        rw [if_pos h39] at hst
        clear h39
        by_cases he : k + 1 = s.size
        · rw [he, byte_drop_end] at hst
          have he' : ((k : Int) + 1 == s.size) = true := beq_iff_eq.2 (by omega)
          have hst := Lib.hid hst
          go_wp2_with fail
          obtain ⟨C, hCd⟩ : ∃ C : World → Prop, C = fun w' => Lib.IsBuilderF 94 5 w.heap.size w.heap.size (Lib.byteCells out) w' ∧ Below w.heap.size w w' := ⟨_, rfl⟩
          have hC0 : C { wr with drawn := wr.drawn + 1 } := by
            rw [hCd]
            exact ⟨Lib.IsBuilderF.of (hB.elim (fun h => .inl h.drew) (fun h => .inr h.drew)), hW.drew⟩
          have cW : ∀ w', C w' → Calls Tryz.prog 81 #[.pointer (some ⟨w.heap.size, 0, none⟩)] w' fun e w'' => e = .returned (.string ⟨out.toArray⟩) ∧ C w'' := fun w' h => by
            rw [hCd] at h ⊢
            refine (Tryz.Builder_String_any_f w.heap.size w.heap.size out w' h.1 h.2.size).mono ?_
            rintro e w'' ⟨rfl, h1, h2⟩
            exact ⟨rfl, h1, h.2.trans h2⟩
          have cX : ∀ p : WdC C, Calls Tryz.prog 81 #[.pointer (some ⟨w.heap.size, 0, none⟩)] p.w fun e w'' => e = .returned (.string ⟨out.toArray⟩) ∧ ∃ q : WdC C, w'' = q.w := fun p => (cW p.w p.h).mono fun e w'' h => ⟨h.1, ⟨w'', h.2⟩, rfl⟩
          haveI : Nonempty (WdC C) := ⟨⟨_, hC0⟩⟩
          have HC := Lib.hid hCd
          clear hCd
          refine wp_region_quietC C (by kernel_rfl) (by kernel_rfl) hC0 ?_
          repeat (go_big_quiet_step (first | exact cX _))
          refine wpQuiet_nil ?_
          rintro _ ⟨⟨w2, hw2⟩, rfl⟩
          clear cW cX
          rw [HC.out] at hw2
          clear HC
          go_wp2
          go_ret3
          exact ⟨by rw [← hst.out, qV]; rfl, hw2.2⟩
        · have he' : ((k : Int) + 1 == s.size) = false := beq_eq_false_iff_ne.2 (by omega)
          have hlt2 : k + 1 < s.size := by omega
          rw [byte_drop hlt2] at hst
          dsimp only at hst
          by_cases d39 : s[k + 1] = 39
          · have u1 : ((s[k + 1].toNat : Int) != 39) = false := by rw [d39]; rfl
            rw [if_pos d39] at hst
            clear d39
            have hst := Lib.hid hst
            go_wp2_with fail
            refine (Tryz.writeByte_h w.heap.size w.heap.size _ 39 wr hB (by omega) hBw).mono ?_
            rintro e w2 ⟨rfl, h2, b2⟩
            go_wp2
            go_roundw
            case rel => exact ⟨k + 2, out ++ [39], by omega, by rw [List.length_append, List.length_singleton]; omega, by go_num, .inr (by rw [cells_snoc]; exact h2), hW.trans b2, hst⟩
            case measure => simp [intOf]; omega
          · have u1 : ((s[k + 1].toNat : Int) != 39) = true := by rw [bne_iff_ne]; exact fun e => d39 (UInt8.toNat_inj.1 (show s[k + 1].toNat = 39 by omega))
            rw [if_neg d39] at hst
            clear d39
            have hst := Lib.hid hst
            go_wp2_with fail
            obtain ⟨C, hCd⟩ : ∃ C : World → Prop, C = fun w' => Lib.IsBuilderF 94 5 w.heap.size w.heap.size (Lib.byteCells out) w' ∧ Below w.heap.size w w' := ⟨_, rfl⟩
            have hC0 : C { wr with drawn := wr.drawn + 1 } := by
              rw [hCd]
              exact ⟨Lib.IsBuilderF.of (hB.elim (fun h => .inl h.drew) (fun h => .inr h.drew)), hW.drew⟩
            have cW : ∀ w', C w' → Calls Tryz.prog 81 #[.pointer (some ⟨w.heap.size, 0, none⟩)] w' fun e w'' => e = .returned (.string ⟨out.toArray⟩) ∧ C w'' := fun w' h => by
              rw [hCd] at h ⊢
              refine (Tryz.Builder_String_any_f w.heap.size w.heap.size out w' h.1 h.2.size).mono ?_
              rintro e w'' ⟨rfl, h1, h2⟩
              exact ⟨rfl, h1, h.2.trans h2⟩
            have cX : ∀ p : WdC C, Calls Tryz.prog 81 #[.pointer (some ⟨w.heap.size, 0, none⟩)] p.w fun e w'' => e = .returned (.string ⟨out.toArray⟩) ∧ ∃ q : WdC C, w'' = q.w := fun p => (cW p.w p.h).mono fun e w'' h => ⟨h.1, ⟨w'', h.2⟩, rfl⟩
            haveI : Nonempty (WdC C) := ⟨⟨_, hC0⟩⟩
            have HC := Lib.hid hCd
            clear hCd
            refine wp_region_quietC C (by kernel_rfl) (by kernel_rfl) hC0 ?_
            repeat (go_big_quiet_step (first | exact cX _))
            refine wpQuiet_nil ?_
            rintro _ ⟨⟨w2, hw2⟩, rfl⟩
            clear cW cX
            rw [HC.out] at hw2
            clear HC
            go_wp2
            go_ret3
            exact ⟨by rw [← hst.out, qV, ← byte_drop hlt2, ← ext_end]; rfl, hw2.2⟩
      have t1 : ((s[k].toNat : Int) != 39) = true := by rw [bne_iff_ne]; exact fun e => h39 (UInt8.toNat_inj.1 (show s[k].toNat = 39 by omega))
      rw [if_neg h39] at hst
      clear h39
      have hst := Lib.hid hst
      go_wp2_with fail
      refine (Tryz.writeByte_h w.heap.size w.heap.size _ s[k].toNat wr hB (by omega) hBw).mono ?_
      rintro e w2 ⟨rfl, h2, b2⟩
      go_wp2
      go_roundw
      case rel => exact ⟨k + 1, out ++ [s[k]], by omega, by rw [List.length_append, List.length_singleton]; omega, by go_num, .inr (by rw [cells_snoc]; exact h2), hW.trans b2, hst⟩
      case measure => simp [intOf]; omega
    · have he : k = s.size := by omega
      have hst := hD.out
      rw [he, byte_drop_end] at hst
      clear hD
      subst he
      have hst := Lib.hid hst
      go_wp2_with fail
      go_ret3
      exact ⟨by rw [← hst.out]; rfl, hW⟩
theorem qV_rel (σ : Sg) (R : Option (List UInt8 × List UInt8)) : RelR σ (qV R) (qA R) := by
  have key : ∀ (a b : ByteArray) (n : Int), RelR σ (.tuple #[.string a, .string b, .int .i64 n]) (.tup [.str a, .str b, .int .i64 n]) := fun a b n => by
    refine ⟨[.string a, .string b, .int .i64 n], rfl, rfl, fun j v a hv ha => ?_⟩
    rcases j with _ | _ | _ | j <;> simp at hv ha
    · subst hv ha; exact .str _
    · subst hv ha; exact .str _
    · subst hv ha; exact .int _ _
  cases R with
  | none => exact key _ _ _
  | some p => exact key _ _ _
theorem double_a (s : ByteArray) (hs : s.size ≤ 1000000) (h1s : 1 ≤ s.size) : AC Tryz.prog 61 [.str s] (qA (dbl (s.data.toList.drop 1) [])) := by
  refine ⟨a_scalar_double_cb, fun σ w vs hh hr hg => ?_⟩
  obtain ⟨v1, rfl⟩ := List.length_eq_one_iff.1 hr.1
  have h1 : Rel1 σ v1 (.str s) := hr.2 0 v1 _ rfl rfl
  cases h1
  refine (double_any s hs h1s _ rfl w).mono ?_
  rintro e w' ⟨rfl, hb⟩
  exact ⟨σ, _, rfl, Ext.refl _ _, fun b q v hv => (hb.cell (p := ⟨b, q, none⟩) (World.block_lt_of_cell? w _ (hh _ _ _ hv))).trans (hh _ _ _ hv), hb, qV_rel _ _⟩
theorem single_a (s : ByteArray) (hs : s.size ≤ 1000000) (h1s : 1 ≤ s.size) : AC Tryz.prog 62 [.str s] (qA (sgl (s.data.toList.drop 1) [])) := by
  refine ⟨a_scalar_single_cb, fun σ w vs hh hr hg => ?_⟩
  obtain ⟨v1, rfl⟩ := List.length_eq_one_iff.1 hr.1
  have h1 : Rel1 σ v1 (.str s) := hr.2 0 v1 _ rfl rfl
  cases h1
  refine (single_any s hs h1s _ rfl w).mono ?_
  rintro e w' ⟨rfl, hb⟩
  exact ⟨σ, _, rfl, Ext.refl _ _, fun b q v hv => (hb.cell (p := ⟨b, q, none⟩) (World.block_lt_of_cell? w _ (hh _ _ _ hv))).trans (hh _ _ _ hv), hb, qV_rel _ _⟩
/-- what a text in quotes says, and what stands behind it -/
def unq (s : ByteArray) : Option (List UInt8 × List UInt8) := match s.data.toList with
  | [] => none
  | c :: l => if c = 34 then dbl l [] else if c = 39 then sgl l [] else none
theorem unquote_a (s : ByteArray) (hs : s.size ≤ 1000000) : AC Tryz.prog 41 [.str s] (qA (unq s)) := by
  refine AC.enter Tryz.func41 a_scalar_Unquote_ok a_scalar_Unquote_cb (by rfl) fun E hE => ?_
  show AK _ _ _ [.c b_scalar_Unquote] _ _
  rw [b_scalar_Unquote]
  (repeat (first | apply kS | apply kB | apply kL | apply kN | (refine kR follows_any [] (by rfl) ?_ ?_; first | exact kT1 | exact kT2 | exact kT3 | exact kT4)))
  refine AK.cond (by rfl) (fun hb => ?_) (fun hb => ?_)
  · have hz : s = ⟨#[]⟩ := by simpa using hb
    subst hz
    (repeat (first | apply kS | apply kB | apply kL | apply kN | (refine kR follows_any [] (by rfl) ?_ ?_; first | exact kT1 | exact kT2 | exact kT3 | exact kT4)))
    refine AK.ret ⟨_, rfl, ?_⟩
    rfl
  · have hz : ¬ s = ByteArray.empty := of_decide_eq_false hb
    have h1 : 1 ≤ s.size := by have := mt (sz0 s).2 hz; omega
    have hu : unq s = if s[0] = 34 then dbl (s.data.toList.drop 1) [] else if s[0] = 39 then sgl (s.data.toList.drop 1) [] else none := by
      have hl := byte_drop (s := s) (k := 0) h1
      rw [List.drop_zero] at hl
      unfold unq
      cases hL : s.data.toList with
      | nil => rw [hL] at hl; cases hl
      | cons c l =>
        rw [hL] at hl
        injection hl with h2 h3
        rw [show s[0] = c from h2.symm]
        rfl
    have hd := double_a s hs h1
    have hg := single_a s hs h1
    (repeat (first | apply kS | apply kB | apply kL | apply kN | (refine kR follows_any [] (by rfl) ?_ ?_; first | exact kT1 | exact kT2 | exact kT3 | exact kT4)))
    refine kR follows_any [] (by rfl) ?_ ?_
    · ((repeat' apply And.intro) <;> first | trivial | omega | (simp only [List.length_nil, List.length_cons]; omega) | (intro hgd; first | (rw [hgd]; rfl) | (refine ⟨?_, by repeat (first | exact trivial | refine ⟨hgd, ?_⟩)⟩; (repeat' apply And.intro) <;> first | trivial | omega | (intro h2; rw [hgd, h2]; rfl) | skip)) | skip)
    rw [show s.data.getD (0 : Int).toNat 0 = s[0] from byte_at h1]
    (repeat (first | apply kS | apply kB | apply kL | apply kN | (refine kR follows_any [] (by rfl) ?_ ?_; first | exact kT1 | exact kT2 | exact kT3 | exact kT4)))
    refine AK.cond (by rfl) (fun hb => ?_) (fun hb => ?_)
    · have e : s[0] = 34 := UInt8.toNat_inj.1 (by have : ((s[0].toNat : Nat) : Int) = 34 := by simpa using hb
                                                  show s[0].toNat = 34; omega)
      rw [if_pos e] at hu
      rw [hu]
      generalize dbl (s.data.toList.drop 1) [] = R at *
      cases R with
      | none =>
        (repeat (first | apply kS | apply kB | apply kL | apply kN | (refine kR follows_any [] (by rfl) ?_ ?_; first | exact kT1 | exact kT2 | exact kT3 | exact kT4)))
        refine kR follows_any [.v (qA none)] (by rfl) ?_ ?_
        · ((repeat' apply And.intro) <;> first | trivial | omega | (simp only [List.length_nil, List.length_cons]; omega) | (intro hgd; first | (rw [hgd]; rfl) | (refine ⟨?_, by repeat (first | exact trivial | refine ⟨hgd, ?_⟩)⟩; (repeat' apply And.intro) <;> first | trivial | omega | (intro h2; rw [hgd, h2]; rfl) | skip)) | skip)
        (repeat (first | apply kS | apply kB | apply kL | apply kN | (refine kR follows_any [] (by rfl) ?_ ?_; first | exact kT1 | exact kT2 | exact kT3 | exact kT4)))
        refine AK.ret ⟨_, rfl, ?_⟩
        rfl
      | some p =>
        (repeat (first | apply kS | apply kB | apply kL | apply kN | (refine kR follows_any [] (by rfl) ?_ ?_; first | exact kT1 | exact kT2 | exact kT3 | exact kT4)))
        refine kR follows_any [.v (qA (some p))] (by rfl) ?_ ?_
        · ((repeat' apply And.intro) <;> first | trivial | omega | (simp only [List.length_nil, List.length_cons]; omega) | (intro hgd; first | (rw [hgd]; rfl) | (refine ⟨?_, by repeat (first | exact trivial | refine ⟨hgd, ?_⟩)⟩; (repeat' apply And.intro) <;> first | trivial | omega | (intro h2; rw [hgd, h2]; rfl) | skip)) | skip)
        (repeat (first | apply kS | apply kB | apply kL | apply kN | (refine kR follows_any [] (by rfl) ?_ ?_; first | exact kT1 | exact kT2 | exact kT3 | exact kT4)))
        refine AK.ret ⟨_, rfl, ?_⟩
        rfl
    · have e : ¬ s[0] = 34 := fun e => by rw [e] at hb; cases hb
      rw [if_neg e] at hu
      (repeat (first | apply kS | apply kB | apply kL | apply kN | (refine kR follows_any [] (by rfl) ?_ ?_; first | exact kT1 | exact kT2 | exact kT3 | exact kT4)))
      refine AK.cond (by rfl) (fun hb => ?_) (fun hb => ?_)
      · have e2 : s[0] = 39 := UInt8.toNat_inj.1 (by have : ((s[0].toNat : Nat) : Int) = 39 := by simpa using hb
                                                     show s[0].toNat = 39; omega)
        rw [if_pos e2] at hu
        rw [hu]
        generalize sgl (s.data.toList.drop 1) [] = R at *
        cases R with
        | none =>
          (repeat (first | apply kS | apply kB | apply kL | apply kN | (refine kR follows_any [] (by rfl) ?_ ?_; first | exact kT1 | exact kT2 | exact kT3 | exact kT4)))
          refine kR follows_any [.v (qA none)] (by rfl) ?_ ?_
          · ((repeat' apply And.intro) <;> first | trivial | omega | (simp only [List.length_nil, List.length_cons]; omega) | (intro hgd; first | (rw [hgd]; rfl) | (refine ⟨?_, by repeat (first | exact trivial | refine ⟨hgd, ?_⟩)⟩; (repeat' apply And.intro) <;> first | trivial | omega | (intro h2; rw [hgd, h2]; rfl) | skip)) | skip)
          (repeat (first | apply kS | apply kB | apply kL | apply kN | (refine kR follows_any [] (by rfl) ?_ ?_; first | exact kT1 | exact kT2 | exact kT3 | exact kT4)))
          refine AK.ret ⟨_, rfl, ?_⟩
          rfl
        | some p =>
          (repeat (first | apply kS | apply kB | apply kL | apply kN | (refine kR follows_any [] (by rfl) ?_ ?_; first | exact kT1 | exact kT2 | exact kT3 | exact kT4)))
          refine kR follows_any [.v (qA (some p))] (by rfl) ?_ ?_
          · ((repeat' apply And.intro) <;> first | trivial | omega | (simp only [List.length_nil, List.length_cons]; omega) | (intro hgd; first | (rw [hgd]; rfl) | (refine ⟨?_, by repeat (first | exact trivial | refine ⟨hgd, ?_⟩)⟩; (repeat' apply And.intro) <;> first | trivial | omega | (intro h2; rw [hgd, h2]; rfl) | skip)) | skip)
          (repeat (first | apply kS | apply kB | apply kL | apply kN | (refine kR follows_any [] (by rfl) ?_ ?_; first | exact kT1 | exact kT2 | exact kT3 | exact kT4)))
          refine AK.ret ⟨_, rfl, ?_⟩
          rfl
      · have e2 : ¬ s[0] = 39 := fun e => by rw [e] at hb; cases hb
        rw [if_neg e2] at hu
        rw [hu]
        (repeat (first | apply kS | apply kB | apply kL | apply kN | (refine kR follows_any [] (by rfl) ?_ ?_; first | exact kT1 | exact kT2 | exact kT3 | exact kT4)))
        refine AK.ret ⟨_, rfl, ?_⟩
        rfl
end Go.Proofs.YtfnpjakekeojoaaGreatDoor
/-
  Paths that are written, sets cut in two: strings.Cut, strings.Split, path.Parse, walked.
-/
namespace Go.Proofs.YtfnpjakekeojoaaGreatDoor
set_option linter.unusedSimpArgs false
set_option linter.unusedVariables false
open Go.RowKit

theorem two_args {σ : Sg} {vs : List Value} {a b : AV} (hr : RelPs σ vs [a, b]) : ∃ x y, vs = [x, y] ∧ RelP σ x a ∧ RelP σ y b := by
  have hl : vs.length = 2 := hr.1
  obtain ⟨v1, v2, rfl⟩ : ∃ a b, vs = [a, b] := by
    rcases vs with _ | ⟨a, _ | ⟨b, _ | ⟨d, l⟩⟩⟩ <;> simp at hl
    exact ⟨a, b, rfl⟩
  exact ⟨v1, v2, rfl, hr.2 0 v1 _ rfl rfl, hr.2 1 v2 _ rfl rfl⟩
theorem index1_a (s : ByteArray) (c : UInt8) : AC Tryz.prog 73 [.str s, .str ⟨#[c]⟩] (.int .i64 (Lib.indexByte s.data.toList c)) := by
  refine ⟨by kernel_rfl, fun σ w vs hh hr hg => ?_⟩
  obtain ⟨v1, v2, rfl, h1, h2⟩ := two_args hr
  have h1 : Rel1 σ v1 (.str s) := h1
  have h2 : Rel1 σ v2 (.str ⟨#[c]⟩) := h2
  cases h1; cases h2
  refine (Tryz.stringslite_Index_one s c w).mono ?_
  rintro e w' ⟨rfl, rfl⟩
  exact ⟨σ, _, rfl, Ext.refl _ _, hh, Below.refl _ _, .int _ _⟩
theorem ix_cases (l : List UInt8) (c : UInt8) : (Lib.indexByte l c = -1 ∧ c ∉ l) ∨ ∃ i : Nat, Lib.indexByte l c = i ∧ i < l.length ∧ l[i]? = some c ∧ c ∉ l.take i := by
  induction l with
  | nil => exact .inl ⟨rfl, by simp⟩
  | cons b l ih =>
    rw [Lib.indexByte]
    by_cases h : b = c
    · subst h
      exact .inr ⟨0, by simp, by simp, rfl, by simp⟩
    · rw [if_neg (by simpa using h)]
      rcases ih with ⟨h1, h2⟩ | ⟨i, h1, h2, h3, h4⟩
      · exact .inl ⟨by rw [h1]; rfl, by simp [h2, Ne.symm h]⟩
      · refine .inr ⟨i + 1, ?_, by simp; omega, by simpa using h3, by simp [h4, Ne.symm h]⟩
        rw [h1, if_neg (by simp)]
        simp
/-- a text cut at the first c -/
def cutB (s : ByteArray) (c : UInt8) : ByteArray × ByteArray × Bool :=
  if Lib.indexByte s.data.toList c = -1 then (s, ⟨#[]⟩, false) else (s.extract 0 (Lib.indexByte s.data.toList c).toNat, s.extract ((Lib.indexByte s.data.toList c).toNat + 1) s.size, true)
theorem cutIn_a (s : ByteArray) (c : UInt8) (hs : s.size ≤ 140737488355328) : AC Tryz.prog 49 [.str s, .str ⟨#[c]⟩] (.tup [.str (cutB s c).1, .str (cutB s c).2.1, .bool (cutB s c).2.2]) := by
  have h := index1_a s c
  have hz1 : (ByteArray.mk #[c]).size = 1 := rfl
  rcases ix_cases s.data.toList c with ⟨h1, _⟩ | ⟨i, h1, h2, _, _⟩
  · have hc : cutB s c = (s, ⟨#[]⟩, false) := by rw [cutB, if_pos h1]
    rw [h1] at h
    rw [hc]
    refine AC.enter Tryz.func49 a_stringslite_Cut_ok a_stringslite_Cut_cb (by rfl) fun E hE => ?_
    show AK _ _ _ [.c b_stringslite_Cut] _ _
    rw [b_stringslite_Cut]
    (repeat (first | apply kS | apply kB | apply kL | apply kN | (refine kR follows_any [] (by rfl) ?_ ?_; first | exact kT1 | exact kT2 | exact kT3 | exact kT4)))
    refine kR follows_any [.v (.int .i64 (-1))] (by rfl) ?_ ?_
    · ((repeat' apply And.intro) <;> first | trivial | omega | (simp only [List.length_nil, List.length_cons]; omega) | (intro hgd; first | (rw [hgd]; rfl) | (refine ⟨?_, by repeat (first | exact trivial | refine ⟨hgd, ?_⟩)⟩; (repeat' apply And.intro) <;> first | trivial | omega | (intro h2; rw [hgd, h2]; rfl) | skip)) | skip)
    (repeat (first | apply kS | apply kB | apply kL | apply kN | (refine kR follows_any [] (by rfl) ?_ ?_; first | exact kT1 | exact kT2 | exact kT3 | exact kT4)))
    refine AK.cond (by rfl) (fun hb => ?_) (fun hb => ?_)
    · simp at hb
    · (repeat (first | apply kS | apply kB | apply kL | apply kN | (refine kR follows_any [] (by rfl) ?_ ?_; first | exact kT1 | exact kT2 | exact kT3 | exact kT4)))
      refine AK.ret ⟨_, rfl, ?_⟩
      rfl
  · have h2' : i < s.size := h2
    have hc : cutB s c = (s.extract 0 i, s.extract (i + 1) s.size, true) := by rw [cutB, if_neg (by omega), h1]; rfl
    rw [h1] at h
    rw [hc]
    have hw : IntKind.i64.wrap ((i : Int) + 1) = (i : Int) + 1 := wrap_in (by omega) (by omega)
    refine AC.enter Tryz.func49 a_stringslite_Cut_ok a_stringslite_Cut_cb (by rfl) fun E hE => ?_
    show AK _ _ _ [.c b_stringslite_Cut] _ _
    rw [b_stringslite_Cut]
    (repeat (first | apply kS | apply kB | apply kL | apply kN | (refine kR follows_any [] (by rfl) ?_ ?_; first | exact kT1 | exact kT2 | exact kT3 | exact kT4)))
    refine kR follows_any [.v (.int .i64 i)] (by rfl) ?_ ?_
    · ((repeat' apply And.intro) <;> first | trivial | omega | (simp only [List.length_nil, List.length_cons]; omega) | (intro hgd; first | (rw [hgd]; rfl) | (refine ⟨?_, by repeat (first | exact trivial | refine ⟨hgd, ?_⟩)⟩; (repeat' apply And.intro) <;> first | trivial | omega | (intro h2; rw [hgd, h2]; rfl) | skip)) | skip)
    (repeat (first | apply kS | apply kB | apply kL | apply kN | (refine kR follows_any [] (by rfl) ?_ ?_; first | exact kT1 | exact kT2 | exact kT3 | exact kT4)))
    refine AK.cond (by rfl) (fun hb => ?_) (fun hb => ?_)
    · (repeat (first | apply kS | apply kB | apply kL | apply kN | (refine kR follows_any [] (by rfl) ?_ ?_; first | exact kT1 | exact kT2 | exact kT3 | exact kT4)))
      refine kR follows_any [] (by rfl) ?_ ?_
      · ((repeat' apply And.intro) <;> first | trivial | omega | (simp only [List.length_nil, List.length_cons]; omega) | (intro hgd; first | (rw [hgd]; rfl) | (refine ⟨?_, by repeat (first | exact trivial | refine ⟨hgd, ?_⟩)⟩; (repeat' apply And.intro) <;> first | trivial | omega | (intro h2; rw [hgd, h2]; rfl) | skip)) | skip)
        all_goals first | omega | (rw [hz1]; show (IntKind.i64.wrap ((i : Int) + 1)) ≤ _; rw [hw]; omega) | (rw [hz1]; show 0 ≤ (IntKind.i64.wrap ((i : Int) + 1)); rw [hw]; omega) | skip
      (repeat (first | apply kS | apply kB | apply kL | apply kN | (refine kR follows_any [] (by rfl) ?_ ?_; first | exact kT1 | exact kT2 | exact kT3 | exact kT4)))
      refine AK.ret ⟨_, rfl, ?_⟩
      have e : s.extract (IntKind.i64.wrap ((i : Int) + ((ByteArray.mk #[c]).size : Nat))).toNat (s.size : Int).toNat = s.extract (i + 1) s.size := by
        rw [hz1]
        rw [show IntKind.i64.wrap ((i : Int) + ((1 : Nat) : Int)) = (i : Int) + 1 from hw]
        rfl
      rw [e]
      rfl
    · simp at hb
theorem cut_a (s : ByteArray) (c : UInt8) (hs : s.size ≤ 140737488355328) : AC Tryz.prog 28 [.str s, .str ⟨#[c]⟩] (.tup [.str (cutB s c).1, .str (cutB s c).2.1, .bool (cutB s c).2.2]) := by
  have h := cutIn_a s c hs
  refine AC.enter Tryz.func28 a_strings_Cut_ok a_strings_Cut_cb (by rfl) fun E hE => ?_
  show AK _ _ _ [.c b_strings_Cut] _ _
  rw [b_strings_Cut]
  (repeat (first | apply kS | apply kB | apply kL | apply kN | (refine kR follows_any [] (by rfl) ?_ ?_; first | exact kT1 | exact kT2 | exact kT3 | exact kT4)))
  refine kR follows_any [.v (.tup [.str (cutB s c).1, .str (cutB s c).2.1, .bool (cutB s c).2.2])] (by rfl) ?_ ?_
  · ((repeat' apply And.intro) <;> first | trivial | omega | (simp only [List.length_nil, List.length_cons]; omega) | (intro hgd; first | (rw [hgd]; rfl) | (refine ⟨?_, by repeat (first | exact trivial | refine ⟨hgd, ?_⟩)⟩; (repeat' apply And.intro) <;> first | trivial | omega | (intro h2; rw [hgd, h2]; rfl) | skip)) | skip)
  (repeat (first | apply kS | apply kB | apply kL | apply kN | (refine kR follows_any [] (by rfl) ?_ ?_; first | exact kT1 | exact kT2 | exact kT3 | exact kT4)))
  refine AK.ret ⟨_, rfl, ?_⟩
  rfl
theorem count_one (c : UInt8) : ∀ (fuel : Nat) (l : List UInt8), l.length < fuel → Lib.countFrom [c] fuel l = l.count c
  | 0, l, h => by omega
  | fuel + 1, l, h => by
    rw [Lib.countFrom, Lib.index_one]
    rcases ix_cases l c with ⟨h1, h2⟩ | ⟨i, h1, h2, h3, h4⟩
    · rw [h1, List.count_eq_zero_of_not_mem h2]
      rfl
    · have hne : ¬ ((Lib.indexByte l c == -1) = true) := by rw [h1]; simp
      rw [if_neg hne, h1, count_one c fuel _ (by simp; omega)]
      have e : l = l.take i ++ c :: l.drop (i + 1) := by
        have := drop_at h3
        rw [← this, List.take_append_drop]
      have hc : l.count c = (l.take i ++ c :: l.drop (i + 1)).count c := congrArg (List.count c) e
      rw [hc, List.count_append, List.count_eq_zero_of_not_mem h4, List.count_cons_self]
      simp
      omega
theorem rowsP_rel (σ : Sg) (l : List ByteArray) : RelL σ (l.map Value.string) (rowsP l).flatten := by
  have e : (rowsP l).flatten = l.map AV.str := by
    induction l with
    | nil => rfl
    | cons x l ih => simp [rowsP] at ih ⊢; exact ih
  rw [e]
  refine ⟨by simp, fun j v a hv ha => ?_⟩
  rw [List.getElem?_map] at hv ha
  cases h : l[j]? with
  | none => rw [h] at hv; cases hv
  | some x =>
    rw [h] at hv ha
    cases hv; cases ha
    exact .str x
/-- the pieces between the dots -/
def splB (s : ByteArray) : List ByteArray := Lib.splitB ⟨#[46]⟩ 0 (Lib.countB s ⟨#[46]⟩) s
theorem splB_len (s : ByteArray) : (splB s).length = Lib.countB s ⟨#[46]⟩ + 1 := Lib.splitB_all _ (by decide) _ _ _ rfl
set_option maxRecDepth 100000 in
theorem genSplit_mf (s : ByteArray) (hs : s.size ≤ 1000000) : MF Tryz.prog 74 [.str s, .str ⟨#[46]⟩, .int .i64 0, .int .i64 (-1)] 1 (rowsP (splB s)) := by
  refine ⟨by kernel_rfl, fun σ w vs hh hr hg => ?_⟩
  have hl : vs.length = 4 := hr.1
  obtain ⟨v1, v2, v3, v4, rfl⟩ : ∃ a b c d, vs = [a, b, c, d] := by
    rcases vs with _ | ⟨a, _ | ⟨b, _ | ⟨c, _ | ⟨d, _ | ⟨e, l⟩⟩⟩⟩⟩ <;> simp at hl
    exact ⟨a, b, c, d, rfl⟩
  have h1 : Rel1 σ v1 (.str s) := hr.2 0 v1 _ rfl rfl
  have h2 : Rel1 σ v2 (.str ⟨#[46]⟩) := hr.2 1 v2 _ rfl rfl
  have h3 : Rel1 σ v3 (.int .i64 0) := hr.2 2 v3 _ rfl rfl
  have h4 : Rel1 σ v4 (.int .i64 (-1)) := hr.2 3 v4 _ rfl rfl
  cases h1; cases h2; cases h3; cases h4
  have hcl := Lib.countB_le ⟨#[46]⟩ (by decide) s.size s (Nat.le_refl _)
  have hcnt : ∀ w : World, Calls Tryz.prog 94 #[.string s, .string ⟨#[46]⟩] w fun e w' => e = .returned (.int .i64 (Lib.countB s ⟨#[46]⟩)) ∧ w' = w := fun w => by
    refine (Tryz.strings_Count_one s 46 w).mono ?_
    rintro e w' ⟨rfl, rfl⟩
    refine ⟨?_, rfl⟩
    have := count_one 46 (s.data.toList.length + 1) s.data.toList (Nat.lt_succ_self _)
    rw [show Lib.countB s ⟨#[46]⟩ = Lib.countFrom [46] (s.data.toList.length + 1) s.data.toList from rfl, this]
    rfl
  have hix : ∀ (x : ByteArray) (w : World), Calls Tryz.prog 95 #[.string x, .string ⟨#[46]⟩] w fun e w' => e = .returned (.int .i64 (Lib.indexB x ⟨#[46]⟩)) ∧ w' = w := fun x w => by
    refine (Tryz.strings_Index_one x 46 w).mono ?_
    rintro e w' ⟨rfl, rfl⟩
    refine ⟨?_, rfl⟩
    rw [show Lib.indexB x ⟨#[46]⟩ = Lib.index x.data.toList [46] from rfl, Lib.index_one]
  have hN : ((splB s).length : Int) = min (if (-1 : Int) < 0 then (Lib.countB s ⟨#[46]⟩ : Int) + 1 else -1) ((s.size : Int) + 1) := by
    rw [if_pos (by decide), splB_len]
    omega
  refine (Any.strings_genSplit_core Tryz.lays221 (by kernel_rfl) s ⟨#[46]⟩ 0 (-1) (splB s).length w (by omega) (by decide) (by decide) (fun x c _ => hix x _) (hcnt w) (by decide) (by decide) hN).mono ?_
  rintro e w' ⟨rfl, rfl⟩
  have e1 : Lib.splitB ⟨#[46]⟩ 0 ((splB s).length - 1) s = splB s := by rw [splB_len]; rfl
  rw [e1]
  have hbl : Below w.heap.size w (w.alloc (.cells (Lib.cellsOf (splB s) (splB s).length) 9)) := (Below.refl _ _).alloc (Nat.le_refl _) _
  have hne : 0 < (splB s).length := by rw [splB_len]; omega
  refine ⟨σ, w.heap.size, _, by rw [rowsP_len], Ext.refl _ _, fun b q v hv => (hbl.cell (p := ⟨b, q, none⟩) (World.block_lt_of_cell? w _ (hh _ _ _ hv))).trans (hh _ _ _ hv), hbl, by omega, ?_⟩
  have e2 : Lib.cellsOf (splB s) (splB s).length = ((splB s).map Value.string ++ []).toArray := by simp [Lib.cellsOf]
  rw [e2]
  refine FRowW.new hh (Nat.le_refl _) (e := 9) ?_ ?_ ?_ (by simp) ?_ ?_
  · exact rowsP_rel σ _
  · intro c hc
    simp only [rowsP, List.mem_map] at hc
    obtain ⟨x, _, rfl⟩ := hc
    rfl
  · simp [rowsP_len]
  · simp
  · rw [rowsP_len]; exact Nat.le_refl _
theorem rowsP_ok (l : List ByteArray) : RowsOk 1 (rowsP l) := by
  refine ⟨by omega, fun c hc => ?_⟩
  simp only [rowsP, List.mem_map] at hc
  obtain ⟨x, _, rfl⟩ := hc
  exact ⟨rfl, rfl⟩
theorem split_a (s : ByteArray) (hs : s.size ≤ 1000000) : AC Tryz.prog 50 [.str s, .str ⟨#[46]⟩] (.lst .any 1 (rowsP (splB s))) := by
  have h := genSplit_mf s hs
  refine AC.enter Tryz.func50 a_strings_Split_ok a_strings_Split_cb (by rfl) fun E hE => ?_
  show AK _ _ _ [.c b_strings_Split] _ _
  rw [b_strings_Split]
  (repeat (first | apply kS | apply kB | apply kL | apply kN | (refine kR follows_any [] (by rfl) ?_ ?_; first | exact kT1 | exact kT2 | exact kT3 | exact kT4)))
  refine kR follows_any [.f 1 (rowsP (splB s))] (by rfl) ?_ ?_
  · ((repeat' apply And.intro) <;> first | trivial | omega | (simp only [List.length_nil, List.length_cons]; omega) | (intro hgd; first | (rw [hgd]; rfl) | (refine ⟨?_, by repeat (first | exact trivial | refine ⟨hgd, ?_⟩)⟩; (repeat' apply And.intro) <;> first | trivial | omega | (intro h2; rw [hgd, h2]; rfl) | skip)) | skip)
  refine AK.open2 7 1000010 rfl (by omega) rfl (rowsP_ok _) fun cap2 cs2 hr2 => ?_
  refine AK.fz 1000010 rfl ?_
  refine AK.weak (Weak.intro (L := [(4, .lst .any 1 (rowsP (splB s)))]) (BL := []) ⟨⟨_, rfl, .one (hr2.le rfl)⟩, trivial⟩ trivial rfl rfl (by exact trivial)) ?_
  (repeat (first | apply kS | apply kB | apply kL | apply kN | (refine kR follows_any [] (by rfl) ?_ ?_; first | exact kT1 | exact kT2 | exact kT3 | exact kT4)))
  refine AK.ret ⟨_, rfl, ?_⟩
  rfl
/-- the steps of a path that is written; what is wrong -/
def pathP (s : ByteArray) : List ByteArray × Int := if 16 ≤ (splB s).length then ([], 5) else if (splB s).all wdB = true then (splB s, 0) else ([], 10)
theorem splB_mem {s x : ByteArray} (h : x ∈ splB s) : x.size ≤ s.size := by
  have key : ∀ (k : Nat) (s : ByteArray), ∀ x ∈ Lib.splitB ⟨#[46]⟩ 0 k s, x.size ≤ s.size := by
    intro k
    induction k with
    | zero => intro s x hx; simp [Lib.splitB] at hx; subst hx; exact Nat.le_refl _
    | succ k ih =>
      intro s x hx
      rw [Lib.splitB] at hx
      split at hx
      · simp at hx; subst hx; exact Nat.le_refl _
      · rcases List.mem_cons.1 hx with rfl | hx
        · rw [ByteArray.size_extract]; omega
        · refine Nat.le_trans (ih _ x hx) ?_
          rw [ByteArray.size_extract]; omega
  exact key _ _ _ h
theorem pathParse_a (s : ByteArray) (hs : s.size ≤ 1000000) : AC Tryz.prog 29 [.str s] (.tup [.lst .any 1 (rowsP (pathP s).1), .int .i64 (pathP s).2]) := by
  have h := split_a s hs
  have hl : (splB s).length ≤ 1000001 := by
    rw [splB_len]
    have := Lib.countB_le ⟨#[46]⟩ (by decide) s.size s (Nat.le_refl _)
    omega
  have hc := contains_a (splB s) (by omega) (fun x hx => by have := splB_mem hx; omega)
  refine AC.enter Tryz.func29 a_path_Parse_ok a_path_Parse_cb (by rfl) fun E hE => ?_
  show AK _ _ _ [.c b_path_Parse] _ _
  rw [b_path_Parse]
  (repeat (first | apply kS | apply kB | apply kL | apply kN | (refine kR follows_any [] (by rfl) ?_ ?_; first | exact kT1 | exact kT2 | exact kT3 | exact kT4)))
  refine kR follows_any [.v (.lst .any 1 (rowsP (splB s)))] (by rfl) ?_ ?_
  · ((repeat' apply And.intro) <;> first | trivial | omega | (simp only [List.length_nil, List.length_cons]; omega) | (intro hgd; first | (rw [hgd]; rfl) | (refine ⟨?_, by repeat (first | exact trivial | refine ⟨hgd, ?_⟩)⟩; (repeat' apply And.intro) <;> first | trivial | omega | (intro h2; rw [hgd, h2]; rfl) | skip)) | skip)
  (repeat (first | apply kS | apply kB | apply kL | apply kN | (refine kR follows_any [] (by rfl) ?_ ?_; first | exact kT1 | exact kT2 | exact kT3 | exact kT4)))
  refine AK.cond (by rfl) (fun hb => ?_) (fun hb => ?_)
  · have h16 : 16 ≤ (splB s).length := by simp [rowsP_len] at hb; omega
    (repeat (first | apply kS | apply kB | apply kL | apply kN | (refine kR follows_any [] (by rfl) ?_ ?_; first | exact kT1 | exact kT2 | exact kT3 | exact kT4)))
    refine AK.ret ⟨_, rfl, ?_⟩
    rw [pathP, if_pos h16]
    rfl
  · have h16 : ¬ 16 ≤ (splB s).length := by simp [rowsP_len] at hb; omega
    (repeat (first | apply kS | apply kB | apply kL | apply kN | (refine kR follows_any [] (by rfl) ?_ ?_; first | exact kT1 | exact kT2 | exact kT3 | exact kT4)))
    refine kR follows_any [.v (.bool (!(splB s).all wdB))] (by rfl) ?_ ?_
    · ((repeat' apply And.intro) <;> first | trivial | omega | (simp only [List.length_nil, List.length_cons]; omega) | (intro hgd; first | (rw [hgd]; rfl) | (refine ⟨?_, by repeat (first | exact trivial | refine ⟨hgd, ?_⟩)⟩; (repeat' apply And.intro) <;> first | trivial | omega | (intro h2; rw [hgd, h2]; rfl) | skip)) | skip)
    refine AK.cond (by rfl) (fun hb => ?_) (fun hb => ?_)
    · have ha : ¬ (splB s).all wdB = true := by intro h; rw [h] at hb; cases hb
      (repeat (first | apply kS | apply kB | apply kL | apply kN | (refine kR follows_any [] (by rfl) ?_ ?_; first | exact kT1 | exact kT2 | exact kT3 | exact kT4)))
      refine AK.ret ⟨_, rfl, ?_⟩
      rw [pathP, if_neg h16, if_neg ha]
      rfl
    · have ha : (splB s).all wdB = true := by
        cases h : (splB s).all wdB with
        | true => rfl
        | false => rw [h] at hb; cases hb
      (repeat (first | apply kS | apply kB | apply kL | apply kN | (refine kR follows_any [] (by rfl) ?_ ?_; first | exact kT1 | exact kT2 | exact kT3 | exact kT4)))
      refine AK.ret ⟨_, rfl, ?_⟩
      rw [pathP, if_neg h16, if_pos ha]
      rfl
end Go.Proofs.YtfnpjakekeojoaaGreatDoor
