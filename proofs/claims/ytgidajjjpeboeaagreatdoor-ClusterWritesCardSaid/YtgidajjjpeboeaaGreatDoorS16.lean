/-
  The texts that the claim wants, one behind the other: part 16.
-/
import Derived.Test.YtgidajjjpeboeaaGreatDoorS15
set_option linter.unusedSimpArgs false
set_option linter.unusedVariables false
namespace Go.Proofs.YtgidajjjpeboeaaGreatDoor
open Go.RowKit
def letN (c : Nat) : Bool := decide (65 ≤ c) && decide (c ≤ 90) || decide (97 ≤ c) && decide (c ≤ 122)
def moreN (c : Nat) : Bool := decide (48 ≤ c) && decide (c ≤ 57) || decide (c = 95) || decide (c = 45) || decide (c = 46) || decide (c = 47)
def bareAt (k c : Nat) : Bool := letN c || (!decide (k = 0) && moreN c)
def bareWord (s : ByteArray) : Bool := decide (s.size = 0) || decide (s = ⟨#[110, 117, 108, 108]⟩) || decide (s = ⟨#[116, 114, 117, 101]⟩) || decide (s = ⟨#[102, 97, 108, 115, 101]⟩)
def bareB (s : ByteArray) : Bool := !bareWord s && decide (∀ k, (h : k < s.size) → bareAt k s[k].toNat = true)
theorem bareB_no {s : ByteArray} {k : Nat} (h : k < s.size) (hb : bareAt k s[k].toNat = false) : bareB s = false := by
 unfold bareB
 rw [Bool.and_eq_false_iff]
 refine .inr (decide_eq_false fun hA => ?_)
 rw [hA k h] at hb
 cases hb
theorem refBare_a (s : ByteArray) (hs : s.size ≤ 140737488355328) : AC Tryz.prog 101 [.str s] (.bool (bareB s)) := by
 refine kE Tryz.func101 a_ref04_Bare_ok a_ref04_Bare_cb fun E hE => ?_
 refine kW ?_
 refine kQ [] ?_
 refine kC (fun hb => ?_) fun hb => ?_
 ·have hw : bareWord s = true := by
   rw [← hb]; unfold bareWord
   simp
  refine kW ?_
  refine AK.ret ⟨_, rfl, ?_⟩
  rw [bareB, hw]
  rfl
 have hw : bareWord s = false := by
  rw [← hb]; unfold bareWord
  simp
 refine kW ?_
 refine AK.loopI (fun k : Nat => (frOf [(0, .str s), (3, .int .i64 k)], ⟨boxOf [], fun _ => 0⟩)) (fun k => k ≤ s.size ∧ ∀ j, (h : j < s.size) → j < k → bareAt j s[j].toNat = true) (fun k => s.size - k) 0 ⟨by omega, fun j h h2 => by omega⟩ (Weak.intro ⟨kI, kI, trivial⟩ trivial rfl rfl) fun k ⟨hk, hno⟩ => ?_
 refine kW ?_
 refine kC (fun hb => ?_) fun hb => ?_
 ·have hlt : k < s.size := by simpa using hb
  refine kW ?_
  refine kQ [] ?_
  rw [show s.data.getD (k : Int).toNat 0 = s[k] from byte_at hlt]
  refine kW ?_
  refine kQ [] ?_
  refine kW ?_
  refine kQ [] ?_
  refine kW ?_
  refine kQ [] ?_
  refine kC (fun hb => ?_) fun hb => ?_
  ·have hf : bareAt k s[k].toNat = false := by
    simp only [Bool.or_eq_true, Bool.and_eq_true, Bool.not_eq_true', Bool.or_eq_false_iff, Bool.and_eq_false_iff, decide_eq_true_eq, decide_eq_false_iff_not] at hb
    simp only [bareAt, letN, moreN, Bool.or_eq_false_iff, Bool.and_eq_false_iff, Bool.not_eq_false', decide_eq_true_eq, decide_eq_false_iff_not]
    omega
   refine kW ?_
   refine AK.ret ⟨_, rfl, ?_⟩
   rw [bareB_no hlt hf]
   rfl
  ·have ht : bareAt k s[k].toNat = true := by
    simp only [Bool.or_eq_true, Bool.and_eq_true, Bool.not_eq_false', Bool.or_eq_false_iff, Bool.and_eq_false_iff, decide_eq_true_eq, decide_eq_false_iff_not] at hb
    simp only [bareAt, letN, moreN, Bool.or_eq_true, Bool.and_eq_true, Bool.not_eq_true', decide_eq_true_eq, decide_eq_false_iff_not]
    omega
   refine kW ?_
   exact AK.lp ⟨k + 1, ⟨by omega, fun j h h2 => by
    by_cases e : j = k
    ·subst e; exact ht
    ·exact hno j h (by omega)⟩, Weak.intro ⟨kI, kU, trivial⟩ trivial rfl rfl, by omega⟩
 ·have hlt : s.size ≤ k := by simpa using hb
  refine AK.exit rfl ?_
  refine kW ?_
  refine AK.ret ⟨_, rfl, ?_⟩
  have : bareB s = true := by
   rw [bareB, hw, Bool.not_false, Bool.true_and]
   exact decide_eq_true fun j h => hno j h (by omega)
  rw [this]
  rfl
end Go.Proofs.YtgidajjjpeboeaaGreatDoor
