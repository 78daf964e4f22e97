/-
  The walks of the functions on revisions, fourth part: comparing records.
-/
import Derived.Test.YtehmenkofhdmfaaHistC
namespace Go.Proofs.Ytehmenkofhdmfaa
set_option linter.unusedSimpArgs false
set_option linter.unusedVariables false
open Go.RowKit

theorem bytes_inj (a b : ByteArray) : a.toList = b.toList ↔ a = b := by
  rw [ByteArray.toList_eq, ByteArray.toList_eq]
  obtain ⟨⟨x⟩⟩ := a
  obtain ⟨⟨y⟩⟩ := b
  simp
def recEq (r s : Rec) : Bool := r.rel.toList == s.rel.toList && (r.rev == s.rev && (r.st == s.st && (r.cmd == s.cmd && (r.ch.toList == s.ch.toList && (r.va.toList == s.va.toList && r.ma.toList == s.ma.toList)))))
theorem recEq_iff (r s : Rec) : recEq r s = true ↔ r = s := by
  cases r; cases s
  simp [recEq, bytes_inj]
theorem recEq_self (r : Rec) : recEq r r = true := (recEq_iff r r).2 rfl

theorem held29 : Try.prog.stoodInHeld 29 = false := by kernel_rfl
theorem held37 : Try.prog.stoodInHeld 37 = false := by kernel_rfl
theorem guard29 : Try.prog.eqGuardType Try.prog.depth 29 = false := by kernel_rfl
theorem guard37 : Try.prog.eqGuardType Try.prog.depth 37 = false := by kernel_rfl

theorem run_eqrec29 (w : World) (r s : Rec) : (binOp .eql 29 (.agg #[.string (r).rel, .int .i64 (r).rev, .int .i64 (r).st, .int .i64 (r).cmd, .string (r).ch, .string (r).va, .string (r).ma]) (.agg #[.string (s).rel, .int .i64 (s).rev, .int .i64 (s).st, .int .i64 (s).cmd, .string (s).ch, .string (s).va, .string (s).ma])).run Try.prog w = .ok (.bool (recEq r s)) w := by
  simp [go_sem, held29, recEq]
  repeat' split
  all_goals simp_all
theorem run_neqrec29 (w : World) (r s : Rec) : (binOp .neq 29 (.agg #[.string (r).rel, .int .i64 (r).rev, .int .i64 (r).st, .int .i64 (r).cmd, .string (r).ch, .string (r).va, .string (r).ma]) (.agg #[.string (s).rel, .int .i64 (s).rev, .int .i64 (s).st, .int .i64 (s).cmd, .string (s).ch, .string (s).va, .string (s).ma])).run Try.prog w = .ok (.bool (!recEq r s)) w := by
  simp [go_sem, held29, recEq]
  repeat' split
  all_goals simp_all
theorem run_eqrec37 (w : World) (r s : Rec) : (binOp .eql 37 (.agg #[.string (r).rel, .int .i64 (r).rev, .int .i64 (r).st, .int .i64 (r).cmd, .string (r).ch, .string (r).va, .string (r).ma]) (.agg #[.string (s).rel, .int .i64 (s).rev, .int .i64 (s).st, .int .i64 (s).cmd, .string (s).ch, .string (s).va, .string (s).ma])).run Try.prog w = .ok (.bool (recEq r s)) w := by
  simp [go_sem, held37, recEq]
  repeat' split
  all_goals simp_all
theorem run_neqrec37 (w : World) (r s : Rec) : (binOp .neq 37 (.agg #[.string (r).rel, .int .i64 (r).rev, .int .i64 (r).st, .int .i64 (r).cmd, .string (r).ch, .string (r).va, .string (r).ma]) (.agg #[.string (s).rel, .int .i64 (s).rev, .int .i64 (s).st, .int .i64 (s).cmd, .string (s).ch, .string (s).va, .string (s).ma])).run Try.prog w = .ok (.bool (!recEq r s)) w := by
  simp [go_sem, held37, recEq]
  repeat' split
  all_goals simp_all

set_option maxHeartbeats 1000000 in
theorem same_any (v v2 : Value) (l m : List Rec) (w : World) (hs : Sl 7 RecR w w.heap.size v l) (ht : Sl 7 RecR w w.heap.size v2 m) (hl : l.length ≤ 1000000) (hl2 : m.length ≤ 1000000) (he : l = m) :
    Calls Try.prog 16 #[v, v2] w fun e w' => e = .returned (.bool true) ∧ Below w.heap.size w w' := by
  subst he
  obtain ⟨A, cap, rfl, hc, hs⟩ := hs
  obtain ⟨A2, cap2, rfl, hc2, ht⟩ := ht
  have e1 := fun (w : World) (r s : Rec) => run_neqrec37 w r s
  have g1 := fun (w : World) (r s : Rec) => run_eqGuard_agg (P := Try.prog) w .neq 37
  have hself : ∀ r, recEq r r = true := recEq_self
  go_enter Try.func16, Try.ntmps16
  go_wp2
  go_loopw [13] (fun i wr => ∃ k : Nat, k ≤ l.length ∧ i = .int .i64 k ∧ Below w.heap.size w wr) (fun i _ => l.length - (intOf i).toNat)
  case atStart => exact ⟨0, by omega, rfl, Below.refl _ _⟩
  case round =>
    obtain ⟨k, hk, rfl, hB⟩ := hrel
    by_cases hlt : k < l.length
    · obtain ⟨b, o, x, rfl, hb, hg, c0, c1, c2, c3, c4, c5, c6⟩ := recs_at (hs.below hB) hlt
      obtain ⟨b', o', x', rfl, hb', hg', d0, d1, d2, d3, d4, d5, d6⟩ := recs_at (ht.below hB) hlt
      obtain rfl : x = x' := by rw [hg] at hg'; injection hg'
      clear hg hg' hs ht
      go_wp2
      go_quiet (fail)
      go_wp2
      go_roundw
      case rel => exact ⟨k + 1, by omega, by go_num, below_drewN hB _⟩
      case measure => simp [intOf]; omega
    · go_wp2
      go_ret
      exact ⟨rfl, hB⟩
end Go.Proofs.Ytehmenkofhdmfaa
