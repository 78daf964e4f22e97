/-
  The texts that the claim wants, one behind the other: part 14.
-/
import Derived.Test.YtnpkejnaeemgjaaGreatDoorS13
set_option linter.unusedSimpArgs false
set_option linter.unusedVariables false
namespace Go.Proofs.YtnpkejnaeemgjaaGreatDoor
open Go.RowKit
def letN (c : Nat) : Bool := decide (65 ≤ c) && decide (c ≤ 90) || decide (97 ≤ c) && decide (c ≤ 122)
def moreN (c : Nat) : Bool := decide (48 ≤ c) && decide (c ≤ 57) || decide (c = 95) || decide (c = 45) || decide (c = 46) || decide (c = 47)
def bareAt (k c : Nat) : Bool := letN c || (!decide (k = 0) && moreN c)
def bareWord (s : ByteArray) : Bool := decide (s.size = 0) || decide (s = ⟨#[110, 117, 108, 108]⟩) || decide (s = ⟨#[116, 114, 117, 101]⟩) || decide (s = ⟨#[102, 97, 108, 115, 101]⟩)
def bareB (s : ByteArray) : Bool := !bareWord s && decide (∀ k, (h : k < s.size) → bareAt k s[k].toNat = true)
theorem bareB_no {s : ByteArray} {k : Nat} (h : k < s.size) (hb : bareAt k s[k].toNat = false) : bareB s = false := by
 unfold bareB
 rw [Bool.and_eq_false_iff]
 refine .inr (decide_eq_false fun hA => ?_)
 rw [hA k h] at hb
 cases hb
theorem refBare_a (s : ByteArray) (hs : s.size ≤ 140737488355328) : AC Tryz.prog 49 [.str s] (.bool (bareB s)) := by
 refine kE Tryz.func49 a_ref04_Bare_ok a_ref04_Bare_cb fun E hE => ?_
 refine kW ?_
 refine kQ [] ?_
 refine kC (fun hb => ?_) fun hb => ?_
 ·have hw : bareWord s = true := by
   rw [← hb]; unfold bareWord
   simp
  refine kW ?_
  refine AK.ret ⟨_, rfl, ?_⟩
  rw [bareB, hw]
  rfl
 have hw : bareWord s = false := by
  rw [← hb]; unfold bareWord
  simp
 refine kW ?_
 refine AK.loopI (fun k : Nat => (frOf [(0, .str s), (3, .int .i64 k)], ⟨boxOf [], fun _ => 0⟩)) (fun k => k ≤ s.size ∧ ∀ j, (h : j < s.size) → j < k → bareAt j s[j].toNat = true) (fun k => s.size - k) 0 ⟨by omega, fun j h h2 => by omega⟩ (Weak.intro ⟨kI, kI, trivial⟩ trivial rfl rfl) fun k ⟨hk, hno⟩ => ?_
 refine kW ?_
 refine kC (fun hb => ?_) fun hb => ?_
 ·have hlt : k < s.size := by simpa using hb
  refine kW ?_
  refine kQ [] ?_
  rw [show s.data.getD (k : Int).toNat 0 = s[k] from byte_at hlt]
  refine kW ?_
  refine kQ [] ?_
  refine kW ?_
  refine kQ [] ?_
  refine kW ?_
  refine kQ [] ?_
  refine kC (fun hb => ?_) fun hb => ?_
  ·have hf : bareAt k s[k].toNat = false := by
    simp only [Bool.or_eq_true, Bool.and_eq_true, Bool.not_eq_true', Bool.or_eq_false_iff, Bool.and_eq_false_iff, decide_eq_true_eq, decide_eq_false_iff_not] at hb
    simp only [bareAt, letN, moreN, Bool.or_eq_false_iff, Bool.and_eq_false_iff, Bool.not_eq_false', decide_eq_true_eq, decide_eq_false_iff_not]
    omega
   refine kW ?_
   refine AK.ret ⟨_, rfl, ?_⟩
   rw [bareB_no hlt hf]
   rfl
  ·have ht : bareAt k s[k].toNat = true := by
    simp only [Bool.or_eq_true, Bool.and_eq_true, Bool.not_eq_false', Bool.or_eq_false_iff, Bool.and_eq_false_iff, decide_eq_true_eq, decide_eq_false_iff_not] at hb
    simp only [bareAt, letN, moreN, Bool.or_eq_true, Bool.and_eq_true, Bool.not_eq_true', decide_eq_true_eq, decide_eq_false_iff_not]
    omega
   refine kW ?_
   exact AK.lp ⟨k + 1, ⟨by omega, fun j h h2 => by
    by_cases e : j = k
    ·subst e; exact ht
    ·exact hno j h (by omega)⟩, Weak.intro ⟨kI, kU, trivial⟩ trivial rfl rfl, by omega⟩
 ·have hlt : s.size ≤ k := by simpa using hb
  refine AK.exit rfl ?_
  refine kW ?_
  refine AK.ret ⟨_, rfl, ?_⟩
  have : bareB s = true := by
   rw [bareB, hw, Bool.not_false, Bool.true_and]
   exact decide_eq_true fun j h => hno j h (by omega)
  rw [this]
  rfl
theorem indexByte_a (s : ByteArray) (c : Int) : AC Tryz.prog 109 [.str s, .int .u8 c] (.int .i64 (Lib.indexByte s.data.toList c.toNat.toUInt8)) := by
 refine ⟨by kernel_rfl, fun σ w vs hh hr hg => ?_⟩
 have hl : vs.length = 2 := hr.1
 obtain ⟨v1, v2, rfl⟩ : ∃ a b, vs = [a, b] := by
  rcases vs with _ | ⟨a, _ | ⟨b, _ | ⟨d, l⟩⟩⟩ <;> simp at hl
  exact ⟨a, b, rfl⟩
 have h1 : Rel1 σ v1 (.str s) := hr.2 0 v1 _ rfl rfl
 have h2 : Rel1 σ v2 (.int .u8 c) := hr.2 1 v2 _ rfl rfl
 cases h1; cases h2
 refine (Tryz.strings_IndexByte s c w).mono ?_
 rintro e w' ⟨rfl, rfl⟩
 exact ⟨σ, _, rfl, Ext.refl _ _, hh, Below.refl _ _, .int _ _⟩
theorem letter_a (c : Nat) : AC Tryz.prog 107 [.int .u8 c] (.bool (letN c)) := by
 refine kE Tryz.func107 a_scalar_letter_ok a_scalar_letter_cb fun E hE => ?_
 refine kW ?_
 refine kQ [] ?_
 refine kW ?_
 refine AK.ret ⟨_, rfl, ?_⟩
 refine congrArg AV.bool ?_
 rw [Bool.eq_iff_iff]
 simp only [letN, Bool.or_eq_true, Bool.and_eq_true, decide_eq_true_eq]
 omega
theorem digit_a (c : Nat) : AC Tryz.prog 108 [.int .u8 c] (.bool (decide (48 ≤ c) && decide (c ≤ 57))) := by
 refine kE Tryz.func108 a_scalar_digit_ok a_scalar_digit_cb fun E hE => ?_
 refine kW ?_
 refine kQ [] ?_
 refine kW ?_
 refine AK.ret ⟨_, rfl, ?_⟩
 refine congrArg AV.bool ?_
 rw [Bool.eq_iff_iff]
 simp only [Bool.and_eq_true, decide_eq_true_eq]
 omega
end Go.Proofs.YtnpkejnaeemgjaaGreatDoor
/-
 Words: which texts are bare: the program's function, walked.
-/
namespace Go.Proofs.YtnpkejnaeemgjaaGreatDoor
open Go.RowKit
theorem idx4_all : (List.range 256).all (fun c => decide (Lib.indexByte [95, 45, 46, 47] (c : Int).toNat.toUInt8 < 0) == !(decide (c = 95) || decide (c = 45) || decide (c = 46) || decide (c = 47))) = true := by kernel_rfl
theorem idx4 {c : Nat} (h : c < 256) : decide (Lib.indexByte [95, 45, 46, 47] (c : Int).toNat.toUInt8 < 0) = !(decide (c = 95) || decide (c = 45) || decide (c = 46) || decide (c = 47)) :=
 eq_of_beq (List.all_eq_true.1 idx4_all c (List.mem_range.2 h))
theorem ba_empty {s : ByteArray} (h : s.size = 0) : s = ⟨#[]⟩ := by
 cases s with
 | mk d => exact congrArg ByteArray.mk (Array.eq_empty_of_size_eq_zero h)
theorem bare_a (s : ByteArray) (hs : s.size ≤ 140737488355328) : AC Tryz.prog 68 [.str s] (.bool (bareB s)) := by
 refine kE Tryz.func68 a_scalar_Bare_ok a_scalar_Bare_cb fun E hE => ?_
 refine kW ?_
 refine AK.loopI (fun k : Nat => (frOf [(0, .str s), (6, .int .i64 s.size), (7, .int .i64 k)], ⟨boxOf [], fun _ => 0⟩)) (fun k => k ≤ s.size ∧ ∀ j, (h : j < s.size) → j < k → bareAt j s[j].toNat = true) (fun k => s.size - k) 0 ⟨by omega, fun j h h2 => by omega⟩ (Weak.intro ⟨kI, kI, kI, trivial⟩ trivial rfl rfl) fun k ⟨hk, hno⟩ => ?_
 refine kW ?_
 refine kC (fun hb => ?_) fun hb => ?_
 ·have hlt : k < s.size := by simpa using hb
  have hc : s[k].toNat < 256 := s[k].toNat_lt
  refine kW ?_
  refine kQ [] ?_
  rw [show s.data.getD (k : Int).toNat 0 = s[k] from byte_at hlt]
  refine kW ?_
  refine kP [.v (.bool (letN s[k].toNat)), .v (.bool (decide (48 ≤ s[k].toNat) && decide (s[k].toNat ≤ 57))), .v (.int .i64 (Lib.indexByte [95, 45, 46, 47] ((s[k].toNat : Nat) : Int).toNat.toUInt8))] ?_ ?_
  ·((repeat' apply And.intro) <;> first | exact kD | (intro hgd; refine ⟨?_, kG⟩; (repeat' apply And.intro) <;> first | exact kD | skip) | skip)
   all_goals first | exact letter_a _ | exact digit_a _ | exact indexByte_a ⟨#[95, 45, 46, 47]⟩ _
  rw [idx4 hc]
  refine kC (fun hb => ?_) fun hb => ?_
  ·have hf : bareAt k s[k].toNat = false := by
    simp only [Bool.or_eq_true, Bool.and_eq_true, Bool.not_eq_true', Bool.or_eq_false_iff, Bool.and_eq_false_iff, decide_eq_true_eq, decide_eq_false_iff_not] at hb
    simp only [bareAt, moreN, Bool.or_eq_false_iff, Bool.and_eq_false_iff, Bool.not_eq_false', decide_eq_true_eq, decide_eq_false_iff_not]
    refine ⟨hb.1, ?_⟩
    omega
   refine kW ?_
   refine AK.ret ⟨_, rfl, ?_⟩
   rw [bareB_no hlt hf]
   rfl
  ·have ht : bareAt k s[k].toNat = true := by
    simp only [Bool.or_eq_true, Bool.and_eq_true, Bool.not_eq_false', Bool.or_eq_false_iff, Bool.and_eq_false_iff, decide_eq_true_eq, decide_eq_false_iff_not] at hb
    simp only [bareAt, moreN, Bool.or_eq_true, Bool.and_eq_true, Bool.not_eq_true', decide_eq_true_eq, decide_eq_false_iff_not]
    rcases hb with hb | hb
    ·exact .inl hb
    ·refine .inr ?_
     omega
   refine kW ?_
   exact AK.lp ⟨k + 1, ⟨by omega, fun j h h2 => by
    by_cases e : j = k
    ·subst e; exact ht
    ·exact hno j h (by omega)⟩, Weak.intro ⟨kI, kI, kU, trivial⟩ trivial rfl rfl, by omega⟩
 ·have hlt : s.size ≤ k := by simpa using hb
  have hall : decide (∀ k, (h : k < s.size) → bareAt k s[k].toNat = true) = true := decide_eq_true fun j h => hno j h (by omega)
  have hne : ∀ t : ByteArray, bareWord t = true → s = t → bareB s = false := fun t ht e => by rw [e, bareB, ht]; rfl
  refine AK.exit rfl ?_
  refine kW ?_
  refine kC (fun hb => ?_) fun hb => ?_
  ·have e : s = ⟨#[]⟩ := of_decide_eq_true hb
   have hb0 := hb
   refine kW ?_
   refine kC (fun hb => ?_) fun hb => ?_
   ·refine kW ?_
    refine AK.ret ⟨_, rfl, ?_⟩
    rw [hne _ (by kernel_rfl) e]
    rfl
   ·rw [hb0] at hb
    cases hb
  have n0 : s ≠ ⟨#[]⟩ := of_decide_eq_false hb
  refine kW ?_
  refine kC (fun hb => ?_) fun hb => ?_
  ·have e : s = ⟨#[110, 117, 108, 108]⟩ := of_decide_eq_true hb
   have hb0 := hb
   refine kW ?_
   refine kC (fun hb => ?_) fun hb => ?_
   ·refine kW ?_
    refine AK.ret ⟨_, rfl, ?_⟩
    rw [hne _ (by kernel_rfl) e]
    rfl
   ·rw [hb0] at hb
    cases hb
  have n1 : s ≠ ⟨#[110, 117, 108, 108]⟩ := of_decide_eq_false hb
  refine kW ?_
  refine kC (fun hb => ?_) fun hb => ?_
  ·have e : s = ⟨#[116, 114, 117, 101]⟩ := of_decide_eq_true hb
   have hb0 := hb
   refine kW ?_
   refine kC (fun hb => ?_) fun hb => ?_
   ·refine kW ?_
    refine AK.ret ⟨_, rfl, ?_⟩
    rw [hne _ (by kernel_rfl) e]
    rfl
   ·rw [hb0] at hb
    cases hb
  have n2 : s ≠ ⟨#[116, 114, 117, 101]⟩ := of_decide_eq_false hb
  refine kW ?_
  refine kC (fun hb => ?_) fun hb => ?_
  ·have e : s = ⟨#[102, 97, 108, 115, 101]⟩ := of_decide_eq_true hb
   refine kW ?_
   refine AK.ret ⟨_, rfl, ?_⟩
   rw [hne _ (by kernel_rfl) e]
   rfl
  have n3 : s ≠ ⟨#[102, 97, 108, 115, 101]⟩ := of_decide_eq_false hb
  refine kW ?_
  refine AK.ret ⟨_, rfl, ?_⟩
  have hz : s.size ≠ 0 := fun h => n0 (ba_empty h)
  have hw : bareWord s = false := by
   unfold bareWord
   rw [decide_eq_false hz, decide_eq_false n1, decide_eq_false n2, decide_eq_false n3]
   rfl
  have : bareB s = true := by
   rw [bareB, hw, hall]
   rfl
  rw [this]
  rfl
end Go.Proofs.YtnpkejnaeemgjaaGreatDoor
