/-
  The document's Text, walked.
-/
import Derived.Test.YtgekcnpfflhpkaaGreatDoorDriftC
import Derived.Test.YtgekcnpfflhpkaaGreatDoorFol
import Derived.Test.YtgekcnpfflhpkaaGreatDoorPure
namespace Go.Proofs.YtgekcnpfflhpkaaGreatDoor
set_option linter.unusedSimpArgs false
set_option linter.unusedVariables false
open Go.RowKit

theorem refText_a (s : ByteArray) (hs : s.size ≤ 140737488355328) : AC Tryz.prog 99 [.str s] (.bool (textB s)) := by
  refine AC.enter Tryz.func99 a_ref01_Text_ok a_ref01_Text_cb (by rfl) fun E hE => ?_
  show AK _ _ _ [.c b_ref01_Text] _ _
  rw [b_ref01_Text]
  (repeat (first | apply kS | apply kB | apply kL | apply kN | refine kA follows_any ?_))
  refine AK.loopI (fun k : Nat => (frOf [(0, .str s), (3, .int .i64 k)], ⟨boxOf [], fun _ => 0⟩)) (fun k => k ≤ s.size ∧ allTo okT s k) (fun k => s.size - k) 0 ⟨by omega, allTo_zero _ _⟩ (Weak.intro ⟨⟨_, rfl, .refl _⟩, ⟨_, rfl, .refl _⟩, trivial⟩ trivial rfl rfl) fun k ⟨hk, hno⟩ => ?_
  (repeat (first | apply kS | apply kB | apply kL | apply kN | refine kA follows_any ?_))
  refine AK.cond (by rfl) (fun hb => ?_) (fun hb => ?_)
  · have hlt : k < s.size := by simpa using hb
    (repeat (first | apply kS | apply kB | apply kL | apply kN | refine kA follows_any ?_))
    refine kR follows_any [] (by rfl) ?_ ?_
    · ((repeat' apply And.intro) <;> first | exact kD | (intro hgd; refine ⟨?_, kG⟩; (repeat' apply And.intro) <;> first | exact kD | skip) | skip)
    rw [show s.data.getD (k : Int).toNat 0 = s[k] from byte_at hlt]
    refine AK.cond (by rfl) (fun hb => ?_) (fun hb => ?_)
    · (repeat (first | apply kS | apply kB | apply kL | apply kN | refine kA follows_any ?_))
      refine AK.ret ⟨_, rfl, ?_⟩
      have hf : okT s[k] = false := by
        simp only [Bool.or_eq_true, Bool.and_eq_true, Bool.not_eq_true', decide_eq_true_eq, decide_eq_false_iff_not] at hb
        simp only [okT, Bool.or_eq_false_iff, Bool.and_eq_false_iff, decide_eq_false_iff_not, beq_eq_false_iff_ne, ne_eq]
        omega
      rw [textB, allB_false hlt hf]
      rfl
    · have ht : okT s[k] = true := by
        simp only [Bool.or_eq_false_iff, Bool.and_eq_false_iff, Bool.not_eq_false', decide_eq_true_eq, decide_eq_false_iff_not] at hb
        simp only [okT, Bool.or_eq_true, Bool.and_eq_true, decide_eq_true_eq, beq_iff_eq]
        omega
      (repeat (first | apply kS | apply kB | apply kL | apply kN | refine kA follows_any ?_))
      exact AK.lp ⟨k + 1, ⟨by omega, allTo_succ hno hlt ht⟩, Weak.intro ⟨⟨_, rfl, .refl _⟩, ⟨_, rfl, .of_eq (congrArg _ (by first | omega | (rw [wrap_in (by omega) (by omega)]; omega)))⟩, trivial⟩ trivial rfl rfl, by omega⟩
  · have hlt : k = s.size := by have : s.size ≤ k := by simpa using hb
                                omega
    subst hlt
    refine AK.exit rfl ?_
    (repeat (first | apply kS | apply kB | apply kL | apply kN | refine kA follows_any ?_))
    refine AK.ret ⟨_, rfl, ?_⟩
    show AV.bool _ = AV.bool _
    refine congrArg AV.bool ?_
    rw [textB, allB_true hno, Bool.eq_iff_iff]
    simp
    try omega
end Go.Proofs.YtgekcnpfflhpkaaGreatDoor
