/-
  The texts that the claim wants, one behind the other: part 37.
-/
import Derived.Test.YtdncaodccgfniaaDoorS36
set_option linter.unusedSimpArgs false
set_option linter.unusedVariables false
namespace Go.Proofs.YtdncaodccgfniaaDoor
open Go.RowKit Go.Maps Go.MapKept Go.ChangeMaps
theorem byN_le (fs : List Nat) : ∀ k, byN fs k ≤ k
 | 0 => Nat.le_refl _
 | k + 1 => by
  have := byN_le fs k
  unfold byN
  split <;> omega
set_option maxHeartbeats 2000000 in
theorem clusterFails_tail (l : List Nat) (ns : Nat) (hl : l.length ≤ 20) (hns : ns < 256) (E : Env) (hE : E.n = a_law16_ClusterFailsX.n) : AK Tryd.prog E (RQ a_law16_ClusterFailsX.res (.bool true)) [.c (sndC (sndC (sndC (sndC (sndC (sndC b_law16_ClusterFailsX))))))] (frOf [(1, .int .u8 ns), (5, .np 1000100 0), (6, .np 1900102 0)]) ⟨boxOf [badB (badL (fsI l)), (1000100, [.np 1900101 0, .int .i64 0, .lst .any 1 (rowsJ (fsI l ++ [-1])), .int .i64 (-1), .bool false, npC], false), (1900101, [mcA []], false)], fun _ => 0⟩ := by
 have hM : AC Tryd.prog 9 [.lst .any 7 []] ((vA (emB))) := treeMap_a [] (by decide +kernel)
 have hA := awakeCl_a
 have hf40 : ∀ n ∈ fsN l, n < 40 := fun n hn => by
  obtain ⟨m, _, rfl⟩ := List.mem_map.1 hn
  show m % 40 < 40
  omega
 obtain ⟨N, hNd⟩ : ∃ N, N = ns % 60 := ⟨_, rfl⟩
 have hN60 : N < 60 := by omega
 have hN : IntKind.i64.wrap ((ns : Int).tmod 60) = (N : Int) := by
  rw [show (ns : Int).tmod 60 = ((ns % 60 : Nat) : Int) from rfl, ← hNd]
  exact wrap_in (by omega) (by omega)
 have hrow : rowsJ (fsI l ++ [-1]) = rowsJ (failed idI emB (fsN l) 0).fails := by
  show _ = rowsJ ((fsN l).map (fun n : Nat => (n : Int)) ++ [-1])
  rw [fsN_map]
 rw [hrow, b_law16_ClusterFailsX]
 simp only [sndC]
 refine kW ?_
 refine kP [] ?_ ?_
 ·((repeat' apply And.intro) <;> first | exact kD | (intro hgd; refine ⟨?_, kG⟩; (repeat' apply And.intro) <;> first | exact kD | skip) | skip)
  all_goals omega
 refine kW ?_
 refine AK.loopI (fun k : Nat => (frOf [(5, .np 1000100 0), (6, .np 1900102 0), (9, .int .i64 ((byN (fsN l) k : Nat) : Int)), (40, .int .i64 (IntKind.i64.wrap ((ns : Int).tmod 60))), (41, .int .i64 k)], ⟨boxOf (badB (badL (fsI l)) :: cluB (failed idI emB (fsN l) k)), fun _ => 0⟩)) (fun k => k ≤ N) (fun k => N - k) 0 (by omega) (Weak.introN ⟨kI, kI, kI, kI, kI, trivial⟩ ⟨kJ, kJ, kJ, trivial⟩ rfl rfl ⟨rfl, rfl, rfl, trivial⟩) fun k hk => ?_
 have hbk := byN_le (fsN l) k
 refine kW ?_
 refine kC (fun hb => ?_) fun hb => ?_
 ·have hk2 : k < N := by
   rw [hN] at hb
   have : (k : Int) < N := by simpa using hb
   omega
  have hk60 : k < 60 := by omega
  clear hb
  have hnm := nm_at ⟨k, hk60⟩
  dsimp only at hnm
  by_cases hkf : k ∈ fsN l
  ·have hC := cluX_create (fs := fsN l) (k := k) hf40 (by unfold fsN; rw [List.length_map]; omega) hk60
   rw [if_pos hkf, ← hnm] at hC
   have hG := getB_m (d := badL (fsI l)) (fun x hx => fsI_bound (badL_mem.1 hx)) (n := (k : Int)) (by omega)
   rw [decide_eq_true (bad_fsN.2 hkf)] at hG
   refine kW ?_
   refine kP [.v ((vA (emB))), .s [1000100, 1900101] (cluX 1000100 1900101 (failed idI emB (fsN l) (k + 1))) (.int .i64 30)] ?_ ?_
   ·((repeat' apply And.intro) <;> first | exact kD | (intro hgd; refine ⟨?_, kG⟩; (repeat' apply And.intro) <;> first | exact kD | skip) | skip)
    all_goals have hw := nm_wr ⟨k, hk60⟩
    all_goals dsimp only at hw
    all_goals first | with_reducible exact hw.1 | with_reducible exact hw.2.1 | with_reducible exact hw.2.2.1 | with_reducible exact hw.2.2.2 | (clear hw; show ((1 + 2 : Nat) : Int) ≤ _; omega)
   refine kW ?_
   refine kQ [.s [1900102] [(1900102, [mcA (rowsB (badL (fsI l)))])] (.bool true), .s [1900102] [(1900102, [mcA (rowsB (badL (fsI l)))])] (.bool true)] ?_
   refine kCf ?_
   refine kW ?_
   refine kCf ?_
   refine kW ?_
   refine AK.lp ⟨k + 1, by omega, ?_, by omega⟩
   exact Weak.introN ⟨kI, kI, ⟨_, rfl, by rw [byN, if_pos hkf]; exact .refl _⟩, kI, ⟨_, rfl, inc_le (a := (k : Int)) (by omega) (by omega) (by omega)⟩, trivial⟩ ⟨kJ, kJ, kJ, trivial⟩ rfl rfl ⟨rfl, rfl, rfl, trivial⟩
  ·have hC := cluX_create (fs := fsN l) (k := k) hf40 (by unfold fsN; rw [List.length_map]; omega) hk60
   rw [if_neg hkf, ← hnm] at hC
   have hG := getB_m (d := badL (fsI l)) (fun x hx => fsI_bound (badL_mem.1 hx)) (n := (k : Int)) (by omega)
   rw [decide_eq_false (fun h => hkf (bad_fsN.1 h))] at hG
   refine kW ?_
   refine kP [.v ((vA (emB))), .s [1000100, 1900101] (cluX 1000100 1900101 (failed idI emB (fsN l) (k + 1))) (.int .i64 0)] ?_ ?_
   ·((repeat' apply And.intro) <;> first | exact kD | (intro hgd; refine ⟨?_, kG⟩; (repeat' apply And.intro) <;> first | exact kD | skip) | skip)
    all_goals have hw := nm_wr ⟨k, hk60⟩
    all_goals dsimp only at hw
    all_goals first | with_reducible exact hw.1 | with_reducible exact hw.2.1 | with_reducible exact hw.2.2.1 | with_reducible exact hw.2.2.2 | (clear hw; show ((1 + 2 : Nat) : Int) ≤ _; omega)
   refine kW ?_
   refine kQ [.s [1900102] [(1900102, [mcA (rowsB (badL (fsI l)))])] (.bool false), .s [1900102] [(1900102, [mcA (rowsB (badL (fsI l)))])] (.bool false)] ?_
   refine kCf ?_
   refine kW ?_
   refine kCt ?_
   refine kW ?_
   refine AK.lp ⟨k + 1, by omega, ?_, by omega⟩
   exact Weak.introN ⟨kI, kI, ⟨_, rfl, inc_le (a := ((byN (fsN l) k : Nat) : Int)) (by omega) (by omega) (by rw [byN, if_neg hkf]; omega)⟩, kI, ⟨_, rfl, inc_le (a := (k : Int)) (by omega) (by omega) (by omega)⟩, trivial⟩ ⟨kJ, kJ, kJ, trivial⟩ rfl rfl ⟨rfl, rfl, rfl, trivial⟩
 ·have hkN : k = N := by
   rw [hN] at hb
   have : ¬ (k : Int) < N := by simpa using hb
   omega
  clear hb hk
  refine AK.exit rfl ?_
  obtain ⟨p1, p2, p3, p4⟩ := failed_at (v := emB) (fs := fsN l) (fun i j h => idI_ne i j h) k
  have hK := (failed_K hf40 (by unfold fsN; rw [List.length_map]; omega) k (by omega)).1
  generalize failed idI emB (fsN l) k = c at *
  have hD := down_s c
  rw [p1] at hD
  have hO := objects_s c hK.ok
  have hol : (rowsO (Clu.objects c)).length = byN (fsN l) k := by
   rw [rowsO_len]
   unfold Clu.objects
   rw [(sortO_perm _).length_eq, List.length_map]
   exact p3
  refine kS ?_
  refine AK.regC 7 86 (.when true (.bool true)) [.v (.bool true), .s [1000100, 1900101] (cluX 1000100 1900101 c) (.lst .any 9 (rowsO (Clu.objects c))), .s [1000100, 1900101] (cluX 1000100 1900101 c) (.bool false)] ?_ ?_ ?_ ?_
  ·((repeat' apply And.intro) <;> first | exact kD | (intro hgd; refine ⟨?_, kG⟩; (repeat' apply And.intro) <;> first | exact kD | skip) | skip)
  ·show AV.when true (AV.bool (decide (((rowsO (Clu.objects c)).length : Int) = ((byN (fsN l) k : Nat) : Int)))) = _
   rw [hol]
   simp
  ·((repeat' apply And.intro) <;> first | exact kD | (intro hgd; refine ⟨?_, kG⟩; (repeat' apply And.intro) <;> first | exact kD | skip) | skip)
  refine AK.ret ⟨_, rfl, ?_⟩
  rfl
theorem clusterFails_a (l : List Nat) (ns : Nat) (hns : ns < 256) : AC Tryd.prog 3 [.lst .any 1 (rowsW l), .int .u8 ns] (.bool true) := by
 by_cases hl : l.length ≤ 20
 ·exact clusterFails_head l ns hl (clusterFails_tail l ns hl hns)
 have hA := awakeCl_a
 refine kE Tryd.func3 a_law16_ClusterFailsX_ok a_law16_ClusterFailsX_cb fun E hE => ?_
 show AK _ _ _ [.c b_law16_ClusterFailsX] _ _
 rw [b_law16_ClusterFailsX]
 refine kW ?_
 refine kC (fun hb => ?_) fun hb => ?_
 ·refine kW ?_
  refine kQ [.v (.bool true)] ?_
  refine kW ?_
  refine AK.ret ⟨_, rfl, ?_⟩
  rfl
 ·have : ¬ (l.length : Int) > 20 := by simpa [rowsW_len] using hb
  omega
end Go.Proofs.YtdncaodccgfniaaDoor
