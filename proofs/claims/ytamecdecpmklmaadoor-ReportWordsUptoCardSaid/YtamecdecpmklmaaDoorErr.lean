/-
  Words: no two errors that there are have one name.
-/
import Derived.Test.YtamecdecpmklmaaDoorRp4
namespace Go.Proofs.YtamecdecpmklmaaDoor
set_option linter.unusedSimpArgs false
set_option linter.unusedVariables false

theorem err_all : (List.range 36).all (fun n => (List.range 36).all fun m => decide (errW (n : Nat) = otherW) || decide (errW (m : Nat) = otherW) || (decide (errW (n : Nat) = errW (m : Nat)) == decide (n = m))) = true := by kernel_rfl
theorem err_range {e : Int} (h : errW e ≠ otherW) : ∃ n : Nat, n < 36 ∧ e = n := by
  refine ⟨e.toNat, ?_⟩
  unfold errW at h
  split at h
  · omega
  · split at h
    · omega
    · split at h
      · omega
      · exact absurd rfl h
theorem err_inj {e f : Int} (he : errW e ≠ otherW) (hf : errW f ≠ otherW) : decide (errW e = errW f) = decide (e = f) := by
  obtain ⟨n, hn, rfl⟩ := err_range he
  obtain ⟨m, hm, rfl⟩ := err_range hf
  have h1 := List.all_eq_true.1 (List.all_eq_true.1 err_all n (List.mem_range.2 hn)) m (List.mem_range.2 hm)
  rw [decide_eq_false he, decide_eq_false hf, Bool.false_or, Bool.false_or] at h1
  rw [eq_of_beq h1, Bool.eq_iff_iff, decide_eq_true_eq, decide_eq_true_eq]
  omega
end Go.Proofs.YtamecdecpmklmaaDoor
