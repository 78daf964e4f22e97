/-
  The texts that the claim wants, one behind the other: part 25.
-/
import Derived.Test.YtgidajjjpeboeaaGreatDoorS24
set_option linter.unusedSimpArgs false
set_option linter.unusedVariables false
namespace Go.Proofs.YtgidajjjpeboeaaGreatDoor
open Go.RowKit
theorem or_at (W : World) (a b c d : Int) : Calls Tryz.prog 74 #[.slice (some ⟨W.heap.size, 0, none⟩) 4 4] (W.alloc (.cells #[.int .i64 a, .int .i64 b, .int .i64 c, .int .i64 d] 3)) fun e w' => e = .returned (.int .i64 (or4 a b c d)) ∧ w' = W.alloc (.cells #[.int .i64 a, .int .i64 b, .int .i64 c, .int .i64 d] 3) := by
 have hb := heap_alloc_new W (.cells #[.int .i64 a, .int .i64 b, .int .i64 c, .int .i64 d] 3)
 exact or_any a b c d _ _ _ (cell_of_row _ _ 0 _ _ _ hb) (cell_of_row _ _ 1 _ _ _ hb) (cell_of_row _ _ 2 _ _ _ hb) (cell_of_row _ _ 3 _ _ _ hb)
theorem grow3 (w : World) (A B C : Obj) (m : Nat) : (((w.alloc A).alloc B).drewN m).alloc C = Go.Sort.grow (w.drewN m) #[A, B, C] := by
 have h : (((w.heap.push A).push B).push C) = w.heap ++ #[A, B, C] := by
  apply Array.ext'
  simp
 unfold Go.Sort.grow World.drewN World.alloc
 simp only
 rw [← h]
theorem wpOps_step {P : Program} {ops : Array Oper} {Q : Exit → Act → World → Prop} {i : Nat} {rest : List Nat} {o : Oper} {a : Act} {w : World} (ho : ops[i]? = some o) (hg : o.guard = none) (h : o.wp P a w (wpOps P ops Q rest) Q) : wpOps P ops Q (i :: rest) a w := by
 rw [wpOps_cons]
 unfold wpOp
 simp only [ho]
 rw [if_pos (by unfold Region.wanted; rw [hg])]
 exact .inl h
set_option maxHeartbeats 1000000 in
set_option maxRecDepth 100000 in
theorem compare_any (k s n k' s' n' : ByteArray) (w : World) (hg : GW w) : Calls Tryz.prog 41 #[.agg #[.string k, .string s, .string n], .agg #[.string k', .string s', .string n']] w fun e w' => e = .returned (.int .i64 (cmpO k s n k' s' n')) ∧ ∃ q os, w' = Go.Sort.grow (w.drewN q) os := by
 obtain ⟨R, hR⟩ : ∃ R, cmpO k s n k' s' n' = R := ⟨_, rfl⟩
 rw [hR]
 unfold cmpO at hR
 obtain ⟨r1, hr1⟩ : ∃ r : Int, (rankB k : Int) = r := ⟨_, rfl⟩
 obtain ⟨r2, hr2⟩ : ∃ r : Int, (rankB k' : Int) = r := ⟨_, rfl⟩
 obtain ⟨c1, hc1⟩ : ∃ r : Int, cmpN r1 r2 = r := ⟨_, rfl⟩
 obtain ⟨c2, hc2⟩ : ∃ r : Int, cmpS k k' = r := ⟨_, rfl⟩
 obtain ⟨c3, hc3⟩ : ∃ r : Int, cmpS s s' = r := ⟨_, rfl⟩
 obtain ⟨c4, hc4⟩ : ∃ r : Int, cmpS n n' = r := ⟨_, rfl⟩
 rw [hr1, hr2, hc1, hc2, hc3, hc4] at hR
 obtain ⟨W, hW⟩ : ∃ W : World, (w.alloc (.cells #[.string k, .string s, .string n] 24)).alloc (.cells #[.string k', .string s', .string n'] 24) = W := ⟨_, rfl⟩
 have hgW : GW W := by rw [← hW]; exact hg.below (((Below.refl _ _).alloc (Nat.le_refl _) _).alloc (by simp) _)
 have f1 : ∀ m, Calls Tryz.prog 75 #[.string k] (W.drewN m) fun e w' => e = .returned (.int .i64 r1) ∧ ∃ m', w' = W.drewN m' := fun m => (hr1 ▸ rank_any k (W.drewN m) (hgW.below (below_drewN (Below.refl _ _) m))).mono fun e w' h => ⟨h.1, m, h.2⟩
 have f2 : ∀ m, Calls Tryz.prog 75 #[.string k'] (W.drewN m) fun e w' => e = .returned (.int .i64 r2) ∧ ∃ m', w' = W.drewN m' := fun m => (hr2 ▸ rank_any k' (W.drewN m) (hgW.below (below_drewN (Below.refl _ _) m))).mono fun e w' h => ⟨h.1, m, h.2⟩
 have f3 : ∀ m, Calls Tryz.prog 54 #[.int .i64 r1, .int .i64 r2] (W.drewN m) fun e w' => e = .returned (.int .i64 c1) ∧ ∃ m', w' = W.drewN m' := fun m => (hc1 ▸ cmpI_any r1 r2 (W.drewN m)).mono fun e w' h => ⟨h.1, m, h.2⟩
 have f4 : ∀ m, Calls Tryz.prog 76 #[.string k, .string k'] (W.drewN m) fun e w' => e = .returned (.int .i64 c2) ∧ ∃ m', w' = W.drewN m' := fun m => (hc2 ▸ cmpS_any k k' (W.drewN m)).mono fun e w' h => ⟨h.1, m, h.2⟩
 have f5 : ∀ m, Calls Tryz.prog 76 #[.string s, .string s'] (W.drewN m) fun e w' => e = .returned (.int .i64 c3) ∧ ∃ m', w' = W.drewN m' := fun m => (hc3 ▸ cmpS_any s s' (W.drewN m)).mono fun e w' h => ⟨h.1, m, h.2⟩
 have f6 : ∀ m, Calls Tryz.prog 76 #[.string n, .string n'] (W.drewN m) fun e w' => e = .returned (.int .i64 c4) ∧ ∃ m', w' = W.drewN m' := fun m => (hc4 ▸ cmpS_any n n' (W.drewN m)).mono fun e w' h => ⟨h.1, m, h.2⟩
 have hWz : W.heap.size = w.heap.size + 1 + 1 := by rw [← hW]; simp only [World.size_alloc]
 have b1 : W.heap[w.heap.size]? = some (.cells #[.string k, .string s, .string n] 24 (0, 0)) := by
  rw [← hW]
  exact (heap_alloc_old _ _ (by simp only [World.size_alloc]; omega)).trans (heap_alloc_new _ _)
 have b2 : W.heap[w.heap.size + 1]? = some (.cells #[.string k', .string s', .string n'] 24 (0, 0)) := by
  rw [← hW]
  have := heap_alloc_new (w.alloc (.cells #[.string k, .string s, .string n] 24)) (.cells #[.string k', .string s', .string n'] 24)
  rw [World.size_alloc] at this
  exact this
 have x0 : W.cell? ⟨w.heap.size, 0, none⟩ = some (.string k) := cell_of_row W _ 0 _ _ _ b1
 have x1 : W.cell? ⟨w.heap.size, 1, none⟩ = some (.string s) := cell_of_row W _ 1 _ _ _ b1
 have x2 : W.cell? ⟨w.heap.size, 2, none⟩ = some (.string n) := cell_of_row W _ 2 _ _ _ b1
 have y0 : W.cell? ⟨w.heap.size + 1, 0, none⟩ = some (.string k') := cell_of_row W _ 0 _ _ _ b2
 have y1 : W.cell? ⟨w.heap.size + 1, 1, none⟩ = some (.string s') := cell_of_row W _ 1 _ _ _ b2
 have y2 : W.cell? ⟨w.heap.size + 1, 2, none⟩ = some (.string n') := cell_of_row W _ 2 _ _ _ b2
 have HR := Lib.hid hR
 clear b1 b2 hR
 clear hr1 hr2 hc1 hc2 hc3 hc4 hg hgW
 go_enter Tryz.func41, Tryz.ntmps41
 go_wp2_with fail
 try rw [hW]
 refine wp_region_split 22 (C := fun w' => ∃ m, w' = W.drewN m) (by kernel_rfl) (by simp) (by kernel_rfl) (by kernel_rfl) (by kernel_rfl) ⟨1, rfl⟩ ?_
 have HW := Lib.hid hW
 have HZ := Lib.hid hWz
 clear hW hWz
 simp only [List.take_succ_cons, List.take_zero]
 iterate 22 (go_big_quiet_step (first | with_reducible exact f1 _ | with_reducible exact f2 _ | with_reducible exact f3 _ | with_reducible exact f4 _ | with_reducible exact f5 _ | with_reducible exact f6 _))
 refine wpQuiet_nil ?_
 rintro _ ⟨m, rfl⟩
 show wpOps _ _ _ [22, 23, 24] _ _
 refine wpOps_step rfl rfl ?_
 refine op_value (v := .slice (some ⟨(W.drewN m).heap.size, 0, none⟩) 4 4) (w' := (W.drewN m).alloc (.cells #[.int .i64 c1, .int .i64 c2, .int .i64 c3, .int .i64 c4] 3)) (by
  simp [execOp, go_sem]) rfl ?_
 refine wpOps_step rfl rfl ?_
 unfold Oper.wp
 rw [enter_run (fid := 74) (us := []) rfl rfl (by kernel_rfl) rfl, Oper.upon_enter]
 refine (or_at (W.drewN m) c1 c2 c3 c4).mono ?_
 rintro e1 w1 ⟨rfl, rfl⟩
 refine wpOps_step rfl rfl ?_
 refine op_value (v := .int .i64 (or4 c1 c2 c3 c4)) (w' := (W.drewN m).alloc (.cells #[.int .i64 c1, .int .i64 c2, .int .i64 c3, .int .i64 c4] 3)) rfl rfl ?_
 rename_i K hK
 refine hK _ _ ?_
 simp only [Act.put, Array.setIfInBounds]
 refine wp_ret ?_
 refine bodyPost_ret (v := .int .i64 (or4 c1 c2 c3 c4)) (by simp [results, Tryz.results41, go_sem]) rfl ?_
 refine ⟨by rw [HR.out], m, #[.cells #[.string k, .string s, .string n] 24 (0, 0), .cells #[.string k', .string s', .string n'] 24 (0, 0), .cells #[.int .i64 c1, .int .i64 c2, .int .i64 c3, .int .i64 c4] 3 (0, 0)], ?_⟩
 rw [← HW.out]
 exact grow3 _ _ _ _ _
end Go.Proofs.YtgidajjjpeboeaaGreatDoor
