/-
  Two records are one: the comparison, run.
-/
import Derived.Test.YtgcodocajgdmcaaGreatDoorRc1
namespace Go.Proofs.YtgcodocajgdmcaaGreatDoor
set_option linter.unusedSimpArgs false
set_option linter.unusedVariables false
open Go.RowKit

theorem heldR : Tryz.prog.stoodInHeld 38 = false := by kernel_rfl
theorem guardR : Tryz.prog.eqGuardType Tryz.prog.depth 38 = false := by kernel_rfl
def rcV (r : Rc) : List Value := [.string r.rel, .int .i64 r.rev, .int .i64 r.st, .int .i64 r.cmd, .string r.ch, .string r.va, .string r.ma]
theorem eqR_any (a b : Rc) : EqRun Tryz.prog false 38 (rcV a) (rcV b) (eqCells (rcA a) (rcA b)) := by
  intro w x y
  constructor
  · simp [go_sem, eqGuard, eqOp, guardR]
  · simp [go_sem, eqOp, heldR, eqCells, tl_iff, rcV, rcA]
    (repeat' split) <;> simp_all
theorem rcA_eq (a b : Rc) : eqCells (rcA a) (rcA b) = (recV a).sameB (recV b) := by
  rw [Bool.eq_iff_iff, V.sameB_true]
  constructor
  · intro h
    cases a; cases b
    simp [rcA, eqCells] at h
    obtain ⟨rfl, rfl, rfl, rfl, rfl, rfl, rfl⟩ := h
    rfl
  · intro h
    obtain rfl := rc_inj h
    simp [rcA, eqCells]
end Go.Proofs.YtgcodocajgdmcaaGreatDoor
