/-
  The texts that the claim wants, one behind the other: part 37.
-/
import Derived.Test.YtnpkejnaeemgjaaGreatDoorS36
set_option linter.unusedSimpArgs false
set_option linter.unusedVariables false
namespace Go.Proofs.YtnpkejnaeemgjaaGreatDoor
open Go.RowKit
theorem name_a (s : ByteArray) (hs : s.size ≤ 1000000) : AC Tryz.prog 61 [.str s] (.bool (nameC s)) := by
 have h := splitT_a 47 s hs
 have hl := splT_le 47 s
 refine kE Tryz.func61 a_chart_Name_ok a_chart_Name_cb fun E hE => ?_
 refine kW ?_
 refine kQ [.v (.lst .any 1 (rowsT (splT 47 s)))] ?_
 refine kW ?_
 refine AK.loopI (fun k : Nat => (frOf [(0, .str s), (6, .lst .any 1 (rowsT (splT 47 s))), (7, .int .i64 (rowsT (splT 47 s)).length), (8, .int .i64 k)], ⟨boxOf [], fun _ => 0⟩)) (fun k => k ≤ (splT 47 s).length ∧ ∀ (j : Nat) w, j < k → (splT 47 s)[j]? = some w → partB w = true) (fun k => (splT 47 s).length - k) 0 ⟨Nat.zero_le _, fun j w h => by omega⟩ (Weak.intro ⟨kI, kI, kI, kI, trivial⟩ trivial rfl rfl) fun k ⟨hk, hno⟩ => ?_
 refine kW ?_
 refine kC (fun hb => ?_) fun hb => ?_
 ·have hlt : k < (splT 47 s).length := by simpa [rowsT_len] using hb
  obtain ⟨x, hg⟩ : ∃ x, (splT 47 s)[k]? = some x := ⟨_, List.getElem?_eq_getElem hlt⟩
  have hx := splT_mem (List.mem_of_getElem? hg)
  have hc := cutS_size x ⟨#[95]⟩
  refine kW ?_
  refine kP [.c [.str x]] ?_ ?_
  ·((repeat' apply And.intro) <;> first | exact kD | (intro hgd; refine ⟨?_, kG⟩; (repeat' apply And.intro) <;> first | exact kD | skip) | skip)
   ·exact rowsT_at hg
  refine kW ?_
  refine kP [.v (.str (cutS x ⟨#[95]⟩)), .v (.bool (bareB (cutS x ⟨#[95]⟩)))] ?_ ?_
  ·((repeat' apply And.intro) <;> first | exact kD | (intro hgd; refine ⟨?_, kG⟩; (repeat' apply And.intro) <;> first | exact kD | skip) | skip)
   all_goals first | exact trim_a _ _ | exact bare_a _ (by omega) | skip
  refine kC (fun hb => ?_) fun hb => ?_
  ·refine kW ?_
   refine AK.ret ⟨_, rfl, ?_⟩
   have hp : partB x = false := by rw [partB, hb]; rfl
   have ha : (splT 47 s).all partB = false := List.all_eq_false.2 ⟨x, List.mem_of_getElem? hg, by rw [hp]; simp⟩
   rw [nameC, ha]
   rfl
  ·have hp : partB x = true := by rw [partB, hb]; rfl
   refine kW ?_
   exact AK.lp ⟨k + 1, ⟨by omega, fun j w h hw => by
    by_cases e : j = k
    ·subst e; rw [hg] at hw; cases hw; exact hp
    ·exact hno j w (by omega) hw⟩, Weak.intro ⟨kI, kI, kI, kU, trivial⟩ trivial rfl rfl, by omega⟩
 ·have hlt : k = (splT 47 s).length := by have : (splT 47 s).length ≤ k := by simpa [rowsT_len] using hb
                                          omega
  subst hlt
  refine AK.exit rfl ?_
  refine kW ?_
  refine AK.ret ⟨_, rfl, ?_⟩
  have ha : (splT 47 s).all partB = true := List.all_eq_true.2 fun x hx => by
   obtain ⟨j, hj⟩ := List.getElem?_of_mem hx
   exact hno j x (List.getElem?_eq_some_iff.1 hj).1 hj
  rw [nameC, ha]
  exact congrArg AV.bool (by rw [Bool.true_and, Bool.eq_iff_iff, decide_eq_true_eq, decide_eq_true_eq]; omega)
end Go.Proofs.YtnpkejnaeemgjaaGreatDoor
