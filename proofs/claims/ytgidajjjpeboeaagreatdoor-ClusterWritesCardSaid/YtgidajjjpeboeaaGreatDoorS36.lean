/-
  The texts that the claim wants, one behind the other: part 36.
-/
import Derived.Test.YtgidajjjpeboeaaGreatDoorS35
set_option linter.unusedSimpArgs false
set_option linter.unusedVariables false
namespace Go.Proofs.YtgidajjjpeboeaaGreatDoor
open Go.RowKit Go.Maps Go.MapKept Go.ChangeMaps
set_option maxHeartbeats 20000000 in
theorem patch_n (cl : Clu) (hk : CluI cl) (h0 : cl.fails = []) {i : OId} (hi : KeyI i.k i.s i.n) (n : Int) (v : V) (hv : v.size ≤ 1000000) (wr : Int) (hw : AC Tryz.prog 42 [.agg (idA i), (vA (v))] (.int .i64 wr)) :
  MS Tryz.prog 13 (cluN 2000000 2900001 cl) [.np 2000000 0, .agg (idA i), .int .i64 n, (vA (v))] (cluN 2000000 2900001 (cl.patch wr i n v).2) (.int .i64 (cl.patch wr i n v).1) := by
 have hwr := write_n cl hk h0
 have hk2 := hk.write
 have hf2 : cl.write.2.find i = cl.find i := by unfold Clu.find; rw [(write_has cl).1]
 unfold Clu.patch
 refine MS.enter Tryz.func13 a_cluster_Cluster_Patch_ok a_cluster_Cluster_Patch_cb (by rfl) (by rfl) fun E hE => ?_
 show AK _ _ _ [.c b_cluster_Cluster_Patch] _ _
 rw [b_cluster_Cluster_Patch]
 refine kW ?_
 refine kQ [.v (.int .i64 wr)] ?_
 refine kW ?_
 refine kC (fun hb => ?_) fun hb => ?_
 ·have h1 : wr ≠ 0 := by simpa using hb
  rw [if_pos h1]
  refine kW ?_
  exact AK.ret ⟨⟨_, rfl, rfl⟩, ⟨_, rfl, rfl⟩, ⟨_, rfl, rfl⟩, trivial⟩
 have h1 : ¬ wr ≠ 0 := by simpa using hb
 rw [if_neg h1]
 clear hb h1
 refine kW ?_
 refine kQ [.s [2000000, 2900001] (cluN 2000000 2900001 cl.write.2) (.int .i64 cl.write.1)] ?_
 refine kW ?_
 refine kC (fun hb => ?_) fun hb => ?_
 ·have h1 : cl.write.1 ≠ 0 := by simpa using hb
  rw [if_pos h1]
  refine kW ?_
  exact AK.ret ⟨⟨_, rfl, rfl⟩, ⟨_, rfl, rfl⟩, ⟨_, rfl, rfl⟩, trivial⟩
 have h1 : ¬ cl.write.1 ≠ 0 := by simpa using hb
 rw [if_neg h1, ← hf2]
 clear hb h1 hwr hf2
 generalize cl.write.2 = c2 at *
 have ha := add_a 2
 have hp : MS Tryz.prog 45 (cluN 2000000 2900001 c2) [.np 2000000 0, .agg (idA i), (vA (v))] (cluN 2000000 2900001 (c2.put i v)) (.tup []) := MS.hideNil fun u hu => put_r u hu c2 hk2.k hi v hv
 refine kW ?_
 refine AK.weak (Weak.introN (L := [(0, .np 2000000 0), (2, .int .i64 n), (5, .ptr 5 0), (7, .ptr 7 0)]) (BL := [(5, idA i, false), (7, (vC (v)), false), (2000000, [.np 2900001 0, .int .i64 c2.last, .lst .nil 1 [], .int .i64 c2.fuse, .bool c2.down, npC], false), (2900001, [mcA (rowsE c2.has)], false)]) ⟨kI, kI, kI, kI, trivial⟩ ⟨kJ, kJ, kJ, kJ, trivial⟩ rfl rfl ⟨rfl, rfl, trivial⟩) ?_
 cases hfd : c2.find i with
 | none =>
  have hg := getN_g c2.nf hk2.k hi hfd
  refine AK.regaE fw0 [.s [2900001] [(2900001, [mcA (rowsE c2.has)])] (.tup [.agg zE, .bool false])] (frOf [(12, .bool false)]) ⟨boxOf [(2000000, [.np 2900001 0, .int .i64 c2.last, .lst .nil 1 [], .int .i64 c2.fuse, .bool c2.down, npC], false), (2900001, [mcA (rowsE c2.has)], false)], fun _ => 0⟩ ?_ ?_
  ·(repeat' (first | exact trivial | apply And.intro))
   all_goals first | (show _ = _; exact rfl) | (show MOp _ _ _ _ _ _; exact hg) | exact Weak.introN ⟨kI, trivial⟩ ⟨kJ, kJ, trivial⟩ rfl rfl ⟨rfl, rfl, trivial⟩
  refine kW ?_
  refine kCt ?_
  refine kW ?_
  exact AK.ret ⟨⟨_, rfl, rfl⟩, ⟨_, rfl, rfl⟩, ⟨_, rfl, rfl⟩, trivial⟩
 | some e =>
  have hg := getS_g c2.nf hk2.k hi hfd
  refine AK.regaE fw0 [.s [2900001] [(2900001, [mcA (rowsE c2.has)])] (.tup [.agg (enV e.body e.ver), .bool true])] (frOf [(0, .np 2000000 0), (2, .int .i64 n), (5, .ptr 5 0), (7, .ptr 7 0), (11, .ptr 11 0), (12, .bool true)]) ⟨boxOf [(5, idA i, false), (7, (vC (v)), false), (11, enV e.body e.ver, false), (2000000, [.np 2900001 0, .int .i64 c2.last, .lst .nil 1 [], .int .i64 c2.fuse, .bool c2.down, npC], false), (2900001, [mcA (rowsE c2.has)], false)], fun _ => 0⟩ ?_ ?_
  ·(repeat' (first | exact trivial | apply And.intro))
   all_goals first | (show _ = _; exact rfl) | (show MOp _ _ _ _ _ _; exact hg) | exact Weak.introN ⟨kI, kI, kI, kI, kI, kI, trivial⟩ ⟨kJ, kJ, kJ, kJ, kJ, trivial⟩ rfl rfl ⟨rfl, rfl, trivial⟩
  dsimp only
  refine kW ?_
  refine kCf ?_
  refine kW ?_
  refine kC (fun hb => ?_) fun hb => ?_
  ·have h2 : e.ver ≠ n := by simpa using hb
   rw [if_pos h2]
   refine kW ?_
   exact AK.ret ⟨⟨_, rfl, rfl⟩, ⟨_, rfl, rfl⟩, ⟨_, rfl, rfl⟩, trivial⟩
  have h2 : ¬ e.ver ≠ n := by simpa using hb
  rw [if_neg h2]
  clear hb
  refine kW ?_
  refine kQ [.v (.int .i64 0)] ?_
  refine kW ?_
  refine kQ [.s [2000000, 2900001] (cluN 2000000 2900001 (c2.put i v)) (.tup [])] ?_
  refine kW ?_
  exact AK.ret ⟨⟨_, rfl, rfl⟩, ⟨_, rfl, rfl⟩, ⟨_, rfl, rfl⟩, trivial⟩
set_option maxHeartbeats 20000000 in
theorem patch_o (cl : Clu) (hk : CluI cl) (ix : Nat × Nat) (hix : cluFI cl.fails ix) {i : OId} (hi : KeyI i.k i.s i.n) (n : Int) (v : V) (hv : v.size ≤ 1000000) (wr : Int) (hw : AC Tryz.prog 42 [.agg (idA i), (vA (v))] (.int .i64 wr)) :
  MSX Tryz.prog 13 (cluO 2000000 2900001 2000001 cl ix) [.np 2000000 0, .agg (idA i), .int .i64 n, (vA (v))] (fiOk (cl.patch wr i n v).2) (cluY 2000000 2900001 2000001 1000001 (cl.patch wr i n v).2) (fun _ => .int .i64 (cl.patch wr i n v).1) := by
 have hwr := write_o cl hk ix hix
 have hk2 := hk.write
 have hf2 : cl.write.2.find i = cl.find i := by unfold Clu.find; rw [(write_has cl).1]
 obtain ⟨cap0, sp0⟩ := ix
 unfold Clu.patch
 refine MSX.enter Tryz.func13 a_cluster_Cluster_PatchX_ok a_cluster_Cluster_PatchX_cb (by rfl) ?_ fun E hE => ?_
 ·unfold okInS
  show (true && (true && (((rowsJ cl.fails).flatten ++ List.replicate sp0 AV.top).all AV.okIn && true)) && true) = true
  rw [all_rowsJ (fun _ => rfl) rfl]
  rfl
 show AK _ _ _ [.c b_cluster_Cluster_PatchX] _ _
 rw [b_cluster_Cluster_PatchX]
 refine kW ?_
 refine kQ [.v (.int .i64 wr)] ?_
 refine kW ?_
 refine kC (fun hb => ?_) fun hb => ?_
 ·have h1 : wr ≠ 0 := by simpa using hb
  rw [if_pos h1]
  refine kW ?_
  exact AK.ret ⟨some (false, cap0, sp0), hix, ⟨_, rfl, rfl⟩, ⟨_, rfl, rfl⟩, ⟨_, rfl, rfl⟩, ⟨_, rfl, told_rowsJ _ _⟩, trivial⟩
 have h1 : ¬ wr ≠ 0 := by simpa using hb
 rw [if_neg h1]
 clear hb h1
 refine kW ?_
 refine AK.regs ?_
 refine SK.run 1 [] ?_ ?_
 ·((repeat' apply And.intro) <;> first | exact kD | (intro hgd; refine ⟨?_, kG⟩; (repeat' apply And.intro) <;> first | exact kD | skip) | skip)
 refine SK.callX (wrOk cl) (cluY 2000000 2900001 2000001 1000001 cl.write.2) (fun _ => .int .i64 cl.write.1) [2000000, 2900001, 2000001] (S := cluF 2000000 2900001 cl (.sli 2000001 1 cl.fails.length cap0) ++ [(2000001, (fC cl.fails sp0).map AV.told)]) (by rw [told_rowsJ]; exact hwr) (fun f hf => ?_) fun f hf => ?_
 ·rcases f with _ | ⟨_ | _, cap, sp⟩
  ·rfl
  ·have hall := all_rowsJ (g := AV.inS [2000000, 2900001, 2000001]) (fun _ => rfl) rfl cl.write.2.fails sp
   show (((true && (true && (true && ((fC cl.write.2.fails sp).all (AV.inS [2000000, 2900001, 2000001]) && true)))) && true) && true) = true
   rw [hall]
   rfl
  ·have hall := all_rowsJ (g := AV.inS [2000000, 2900001, 1000001]) (fun _ => rfl) rfl cl.write.2.fails sp
   show (((true && (true && (true && ((fC cl.write.2.fails sp).all (AV.inS [2000000, 2900001, 1000001]) && true)))) && true) && true) = true
   rw [hall]
   rfl
 obtain ⟨hf, hno⟩ := hf
 rcases f with _ | ⟨_ | _, cap, sp⟩
 ·refine SK.all [] ?_ ?_
  ·((repeat' apply And.intro) <;> first | exact kD | (intro hgd; refine ⟨?_, kG⟩; (repeat' apply And.intro) <;> first | exact kD | skip) | skip)
  refine kW ?_
  refine kC (fun hb => ?_) fun hb => ?_
  ·have h1 : cl.write.1 ≠ 0 := by simpa using hb
   rw [if_pos h1]
   refine kW ?_
   exact AK.ret ⟨none, hf, ⟨_, rfl, rfl⟩, ⟨_, rfl, rfl⟩, ⟨_, rfl, rfl⟩, trivial⟩
  have h1 : ¬ cl.write.1 ≠ 0 := by simpa using hb
  rw [if_neg h1, ← hf2]
  clear hb h1 hwr hf2 hno
  generalize cl.write.2 = c2 at *
  have ha := add_a 2
  have hp : MS Tryz.prog 45 (cluN 2000000 2900001 c2) [.np 2000000 0, .agg (idA i), (vA (v))] (cluN 2000000 2900001 (c2.put i v)) (.tup []) := MS.hideNil fun u hu => put_r u hu c2 hk2.k hi v hv
  refine kW ?_
  refine AK.weak (Weak.introN (L := [(0, .np 2000000 0), (2, .int .i64 n), (5, .ptr 5 0), (7, .ptr 7 0)]) (BL := [(5, idA i, false), (7, (vC (v)), false), (2000000, [.np 2900001 0, .int .i64 c2.last, .lst .nil 1 [], .int .i64 c2.fuse, .bool c2.down, npC], false), (2900001, [mcA (rowsE c2.has)], false)]) ⟨kI, kI, kI, kI, trivial⟩ ⟨kJ, kJ, kJ, kJ, trivial⟩ rfl rfl ⟨rfl, rfl, trivial⟩) ?_
  cases hfd : c2.find i with
  | none =>
   have hg := getN_g c2.nf hk2.k hi hfd
   refine AK.regaE fw0 [.s [2900001] [(2900001, [mcA (rowsE c2.has)])] (.tup [.agg zE, .bool false])] (frOf [(12, .bool false)]) ⟨boxOf [(2000000, [.np 2900001 0, .int .i64 c2.last, .lst .nil 1 [], .int .i64 c2.fuse, .bool c2.down, npC], false), (2900001, [mcA (rowsE c2.has)], false)], fun _ => 0⟩ ?_ ?_
   ·(repeat' (first | exact trivial | apply And.intro))
    all_goals first | (show _ = _; exact rfl) | (show MOp _ _ _ _ _ _; exact hg) | exact Weak.introN ⟨kI, trivial⟩ ⟨kJ, kJ, trivial⟩ rfl rfl ⟨rfl, rfl, trivial⟩
   refine kW ?_
   refine kCt ?_
   refine kW ?_
   exact AK.ret ⟨none, hf, ⟨_, rfl, rfl⟩, ⟨_, rfl, rfl⟩, ⟨_, rfl, rfl⟩, trivial⟩
  | some e =>
   have hg := getS_g c2.nf hk2.k hi hfd
   refine AK.regaE fw0 [.s [2900001] [(2900001, [mcA (rowsE c2.has)])] (.tup [.agg (enV e.body e.ver), .bool true])] (frOf [(0, .np 2000000 0), (2, .int .i64 n), (5, .ptr 5 0), (7, .ptr 7 0), (11, .ptr 11 0), (12, .bool true)]) ⟨boxOf [(5, idA i, false), (7, (vC (v)), false), (11, enV e.body e.ver, false), (2000000, [.np 2900001 0, .int .i64 c2.last, .lst .nil 1 [], .int .i64 c2.fuse, .bool c2.down, npC], false), (2900001, [mcA (rowsE c2.has)], false)], fun _ => 0⟩ ?_ ?_
   ·(repeat' (first | exact trivial | apply And.intro))
    all_goals first | (show _ = _; exact rfl) | (show MOp _ _ _ _ _ _; exact hg) | exact Weak.introN ⟨kI, kI, kI, kI, kI, kI, trivial⟩ ⟨kJ, kJ, kJ, kJ, kJ, trivial⟩ rfl rfl ⟨rfl, rfl, trivial⟩
   dsimp only
   refine kW ?_
   refine kCf ?_
   refine kW ?_
   refine kC (fun hb => ?_) fun hb => ?_
   ·have h2 : e.ver ≠ n := by simpa using hb
    rw [if_pos h2]
    refine kW ?_
    exact AK.ret ⟨none, hf, ⟨_, rfl, rfl⟩, ⟨_, rfl, rfl⟩, ⟨_, rfl, rfl⟩, trivial⟩
   have h2 : ¬ e.ver ≠ n := by simpa using hb
   rw [if_neg h2]
   clear hb
   refine kW ?_
   refine kQ [.v (.int .i64 0)] ?_
   refine kW ?_
   refine kQ [.s [2000000, 2900001] (cluN 2000000 2900001 (c2.put i v)) (.tup [])] ?_
   refine kW ?_
   exact AK.ret ⟨none, hf, ⟨_, rfl, rfl⟩, ⟨_, rfl, rfl⟩, ⟨_, rfl, rfl⟩, trivial⟩
 ·refine SK.all [] ?_ ?_
  ·((repeat' apply And.intro) <;> first | exact kD | (intro hgd; refine ⟨?_, kG⟩; (repeat' apply And.intro) <;> first | exact kD | skip) | skip)
  refine kW ?_
  refine kC (fun hb => ?_) fun hb => ?_
  ·have h1 : cl.write.1 ≠ 0 := by simpa using hb
   rw [if_pos h1]
   refine kW ?_
   exact AK.ret ⟨some (false, cap, sp), hf, ⟨_, rfl, rfl⟩, ⟨_, rfl, rfl⟩, ⟨_, rfl, rfl⟩, ⟨_, rfl, told_rowsJ _ _⟩, trivial⟩
  have h1 : ¬ cl.write.1 ≠ 0 := by simpa using hb
  exact absurd (hno rfl) h1
 ·refine SK.all [] ?_ ?_
  ·((repeat' apply And.intro) <;> first | exact kD | (intro hgd; refine ⟨?_, kG⟩; (repeat' apply And.intro) <;> first | exact kD | skip) | skip)
  refine kW ?_
  refine kC (fun hb => ?_) fun hb => ?_
  ·have h1 : cl.write.1 ≠ 0 := by simpa using hb
   rw [if_pos h1]
   refine kW ?_
   exact AK.ret ⟨some (true, cap, sp), hf, ⟨_, rfl, rfl⟩, ⟨_, rfl, rfl⟩, ⟨_, rfl, rfl⟩, ⟨_, rfl, told_rowsJ _ _⟩, trivial⟩
  have h1 : ¬ cl.write.1 ≠ 0 := by simpa using hb
  rw [if_neg h1, ← hf2]
  clear hb h1 hwr hf2 hno
  generalize cl.write.2 = c2 at *
  have ha := add_a 2
  have hp : MS Tryz.prog 45 (cluO 2000000 2900001 1000001 c2 (cap, sp)) [.np 2000000 0, .agg (idA i), (vA (v))] (cluO 2000000 2900001 1000001 (c2.put i v) (cap, sp)) (.tup []) := MS.hide (by decide) (by decide) rfl (fC_no _ _) fun u hu => put_r u hu c2 hk2.k hi v hv
  have hp : MS Tryz.prog 45 (cluF 2000000 2900001 c2 (.sli 1000001 1 c2.fails.length cap) ++ [(1000001, (fC c2.fails sp).map AV.told)]) [.np 2000000 0, .agg (idA i), (vA (v))] (cluO 2000000 2900001 1000001 (c2.put i v) (cap, sp)) (.tup []) := by
   rw [told_rowsJ]
   exact hp
  refine kW ?_
  refine AK.weak (Weak.introN (L := [(0, .np 2000000 0), (2, .int .i64 n), (5, .ptr 5 0), (7, .ptr 7 0)]) (BL := [(5, idA i, false), (7, (vC (v)), false), (2000000, [.np 2900001 0, .int .i64 c2.last, .sli 1000001 1 c2.fails.length cap, .int .i64 c2.fuse, .bool c2.down, npC], false), (2900001, [mcA (rowsE c2.has)], false), (1000001, fC c2.fails sp, false)]) ⟨kI, kI, kI, kI, trivial⟩ ⟨kJ, kJ, kJ, kJ, kJ, trivial⟩ rfl rfl ⟨rfl, rfl, all_rowsJ (fun _ => rfl) rfl _ _, trivial⟩) ?_
  cases hfd : c2.find i with
  | none =>
   have hg := getN_g c2.nf hk2.k hi hfd
   refine AK.regaE fw0 [.s [2900001] [(2900001, [mcA (rowsE c2.has)])] (.tup [.agg zE, .bool false])] (frOf [(12, .bool false)]) ⟨boxOf [(2000000, [.np 2900001 0, .int .i64 c2.last, .sli 1000001 1 c2.fails.length cap, .int .i64 c2.fuse, .bool c2.down, npC], false), (2900001, [mcA (rowsE c2.has)], false), (1000001, fC c2.fails sp, false)], fun _ => 0⟩ ?_ ?_
   ·(repeat' (first | exact trivial | apply And.intro))
    all_goals first | (show _ = _; exact rfl) | (show MOp _ _ _ _ _ _; exact hg) | exact Weak.introN ⟨kI, trivial⟩ ⟨kJ, kJ, kJ, trivial⟩ rfl rfl ⟨rfl, rfl, all_rowsJ (fun _ => rfl) rfl _ _, trivial⟩
   refine kW ?_
   refine kCt ?_
   refine kW ?_
   exact AK.ret ⟨some (true, cap, sp), hf, ⟨_, rfl, rfl⟩, ⟨_, rfl, rfl⟩, ⟨_, rfl, rfl⟩, ⟨_, rfl, told_rowsJ _ _⟩, trivial⟩
  | some e =>
   have hg := getS_g c2.nf hk2.k hi hfd
   refine AK.regaE fw0 [.s [2900001] [(2900001, [mcA (rowsE c2.has)])] (.tup [.agg (enV e.body e.ver), .bool true])] (frOf [(0, .np 2000000 0), (2, .int .i64 n), (5, .ptr 5 0), (7, .ptr 7 0), (11, .ptr 11 0), (12, .bool true)]) ⟨boxOf [(5, idA i, false), (7, (vC (v)), false), (11, enV e.body e.ver, false), (2000000, [.np 2900001 0, .int .i64 c2.last, .sli 1000001 1 c2.fails.length cap, .int .i64 c2.fuse, .bool c2.down, npC], false), (2900001, [mcA (rowsE c2.has)], false), (1000001, fC c2.fails sp, false)], fun _ => 0⟩ ?_ ?_
   ·(repeat' (first | exact trivial | apply And.intro))
    all_goals first | (show _ = _; exact rfl) | (show MOp _ _ _ _ _ _; exact hg) | exact Weak.introN ⟨kI, kI, kI, kI, kI, kI, trivial⟩ ⟨kJ, kJ, kJ, kJ, kJ, kJ, trivial⟩ rfl rfl ⟨rfl, rfl, all_rowsJ (fun _ => rfl) rfl _ _, trivial⟩
   dsimp only
   refine kW ?_
   refine kCf ?_
   refine kW ?_
   refine kC (fun hb => ?_) fun hb => ?_
   ·have h2 : e.ver ≠ n := by simpa using hb
    rw [if_pos h2]
    refine kW ?_
    exact AK.ret ⟨some (true, cap, sp), hf, ⟨_, rfl, rfl⟩, ⟨_, rfl, rfl⟩, ⟨_, rfl, rfl⟩, ⟨_, rfl, told_rowsJ _ _⟩, trivial⟩
   have h2 : ¬ e.ver ≠ n := by simpa using hb
   rw [if_neg h2]
   clear hb
   refine kW ?_
   refine kQ [.v (.int .i64 0)] ?_
   refine kW ?_
   refine kP [.s [2000000, 2900001, 1000001] (cluO 2000000 2900001 1000001 (c2.put i v) (cap, sp)) (.tup [])] ?_ ?_
   ·((repeat' apply And.intro) <;> first | exact kD | (intro hgd; refine ⟨?_, kG⟩; (repeat' apply And.intro) <;> first | exact kD | skip) | skip)
    ·show (((true && (true && (true && ((fC c2.fails sp).all (AV.inS [2000000, 2900001, 1000001]) && true)))) && true) && true) = true
     rw [all_rowsJ (fun _ => rfl) rfl]
     rfl
   refine kW ?_
   exact AK.ret ⟨some (true, cap, sp), hf, ⟨_, rfl, rfl⟩, ⟨_, rfl, rfl⟩, ⟨_, rfl, rfl⟩, ⟨_, rfl, told_rowsJ _ _⟩, trivial⟩
set_option maxHeartbeats 20000000 in
theorem delete_n (cl : Clu) (hk : CluI cl) (h0 : cl.fails = []) {i : OId} (hi : KeyI i.k i.s i.n) :
  MS Tryz.prog 14 (cluN 2000000 2900001 cl) [.np 2000000 0, .agg (idA i)] (cluN 2000000 2900001 (cl.delete i).2) (.int .i64 (cl.delete i).1) := by
 have hwr := write_n cl hk h0
 have hk2 := hk.write
 have hf2 : cl.write.2.find i = cl.find i := by unfold Clu.find; rw [(write_has cl).1]
 have hh2 : cl.write.2.has = cl.has := (write_has cl).1
 unfold Clu.delete
 refine MS.enter Tryz.func14 a_cluster_Cluster_Delete_ok a_cluster_Cluster_Delete_cb (by rfl) (by rfl) fun E hE => ?_
 show AK _ _ _ [.c b_cluster_Cluster_Delete] _ _
 rw [b_cluster_Cluster_Delete]
 refine kW ?_
 refine kQ [.s [2000000, 2900001] (cluN 2000000 2900001 cl.write.2) (.int .i64 cl.write.1)] ?_
 refine kW ?_
 refine kC (fun hb => ?_) fun hb => ?_
 ·have h1 : cl.write.1 ≠ 0 := by simpa using hb
  rw [if_pos h1]
  refine kW ?_
  exact AK.ret ⟨⟨_, rfl, rfl⟩, ⟨_, rfl, rfl⟩, ⟨_, rfl, rfl⟩, trivial⟩
 have h1 : ¬ cl.write.1 ≠ 0 := by simpa using hb
 rw [if_neg h1, ← hf2, ← hh2]
 clear hb h1 hwr hf2 hh2
 generalize cl.write.2 = c2 at *
 have ha := add_a 3
 have hd := del_g c2.nf hk2.k hi
 refine kW ?_
 refine AK.weak (Weak.introN (L := [(0, .np 2000000 0), (3, .ptr 3 0)]) (BL := [(3, idA i, false), (2000000, [.np 2900001 0, .int .i64 c2.last, .lst .nil 1 [], .int .i64 c2.fuse, .bool c2.down, npC], false), (2900001, [mcA (rowsE c2.has)], false)]) ⟨kI, kI, trivial⟩ ⟨kJ, kJ, kJ, trivial⟩ rfl rfl ⟨rfl, rfl, trivial⟩) ?_
 cases hfd : c2.find i with
 | none =>
  have hg := getN_g c2.nf hk2.k hi hfd
  refine AK.regaE fw0 [.s [2900001] [(2900001, [mcA (rowsE c2.has)])] (.tup [.agg zE, .bool false])] (frOf [(7, .bool false)]) ⟨boxOf [(2000000, [.np 2900001 0, .int .i64 c2.last, .lst .nil 1 [], .int .i64 c2.fuse, .bool c2.down, npC], false), (2900001, [mcA (rowsE c2.has)], false)], fun _ => 0⟩ ?_ ?_
  ·(repeat' (first | exact trivial | apply And.intro))
   all_goals first | (show _ = _; exact rfl) | (show MOp _ _ _ _ _ _; exact hg) | exact Weak.introN ⟨kI, trivial⟩ ⟨kJ, kJ, trivial⟩ rfl rfl ⟨rfl, rfl, trivial⟩
  refine kW ?_
  refine kCt ?_
  refine kW ?_
  exact AK.ret ⟨⟨_, rfl, rfl⟩, ⟨_, rfl, rfl⟩, ⟨_, rfl, rfl⟩, trivial⟩
 | some e =>
  have hg := getS_g c2.nf hk2.k hi hfd
  refine AK.regaE fw0 [.s [2900001] [(2900001, [mcA (rowsE c2.has)])] (.tup [.agg (enV e.body e.ver), .bool true])] (frOf [(0, .np 2000000 0), (3, .ptr 3 0), (7, .bool true)]) ⟨boxOf [(3, idA i, false), (2000000, [.np 2900001 0, .int .i64 c2.last, .lst .nil 1 [], .int .i64 c2.fuse, .bool c2.down, npC], false), (2900001, [mcA (rowsE c2.has)], false)], fun _ => 0⟩ ?_ ?_
  ·(repeat' (first | exact trivial | apply And.intro))
   all_goals first | (show _ = _; exact rfl) | (show MOp _ _ _ _ _ _; exact hg) | exact Weak.introN ⟨kI, kI, kI, trivial⟩ ⟨kJ, kJ, kJ, trivial⟩ rfl rfl ⟨rfl, rfl, trivial⟩
  refine kW ?_
  refine kCf ?_
  refine kW ?_
  refine kQ [.v (.int .i64 0)] ?_
  refine kW ?_
  refine kQ [.s [2900001] [(2900001, [mcA (rowsE (c2.has.filter fun e => decide (e.id ≠ i)))])] (.tup [])] ?_
  refine kW ?_
  exact AK.ret ⟨⟨_, rfl, rfl⟩, ⟨_, rfl, rfl⟩, ⟨_, rfl, rfl⟩, trivial⟩
set_option maxHeartbeats 20000000 in
theorem delete_o (cl : Clu) (hk : CluI cl) (ix : Nat × Nat) (hix : cluFI cl.fails ix) {i : OId} (hi : KeyI i.k i.s i.n) :
  MSX Tryz.prog 14 (cluO 2000000 2900001 2000001 cl ix) [.np 2000000 0, .agg (idA i)] (fiOk (cl.delete i).2) (cluY 2000000 2900001 2000001 1000001 (cl.delete i).2) (fun _ => .int .i64 (cl.delete i).1) := by
 have hwr := write_o cl hk ix hix
 have hk2 := hk.write
 have hf2 : cl.write.2.find i = cl.find i := by unfold Clu.find; rw [(write_has cl).1]
 have hh2 : cl.write.2.has = cl.has := (write_has cl).1
 obtain ⟨cap0, sp0⟩ := ix
 unfold Clu.delete
 refine MSX.enter Tryz.func14 a_cluster_Cluster_DeleteX_ok a_cluster_Cluster_DeleteX_cb (by rfl) ?_ fun E hE => ?_
 ·unfold okInS
  show (true && (true && (((rowsJ cl.fails).flatten ++ List.replicate sp0 AV.top).all AV.okIn && true)) && true) = true
  rw [all_rowsJ (fun _ => rfl) rfl]
  rfl
 show AK _ _ _ [.c b_cluster_Cluster_DeleteX] _ _
 rw [b_cluster_Cluster_DeleteX]
 refine kW ?_
 refine AK.regs ?_
 refine SK.run 1 [] ?_ ?_
 ·((repeat' apply And.intro) <;> first | exact kD | (intro hgd; refine ⟨?_, kG⟩; (repeat' apply And.intro) <;> first | exact kD | skip) | skip)
 refine SK.callX (wrOk cl) (cluY 2000000 2900001 2000001 1000001 cl.write.2) (fun _ => .int .i64 cl.write.1) [2000000, 2900001, 2000001] (S := cluF 2000000 2900001 cl (.sli 2000001 1 cl.fails.length cap0) ++ [(2000001, (fC cl.fails sp0).map AV.told)]) (by rw [told_rowsJ]; exact hwr) (fun f hf => ?_) fun f hf => ?_
 ·rcases f with _ | ⟨_ | _, cap, sp⟩
  ·rfl
  ·have hall := all_rowsJ (g := AV.inS [2000000, 2900001, 2000001]) (fun _ => rfl) rfl cl.write.2.fails sp
   show (((true && (true && (true && ((fC cl.write.2.fails sp).all (AV.inS [2000000, 2900001, 2000001]) && true)))) && true) && true) = true
   rw [hall]
   rfl
  ·have hall := all_rowsJ (g := AV.inS [2000000, 2900001, 1000001]) (fun _ => rfl) rfl cl.write.2.fails sp
   show (((true && (true && (true && ((fC cl.write.2.fails sp).all (AV.inS [2000000, 2900001, 1000001]) && true)))) && true) && true) = true
   rw [hall]
   rfl
 obtain ⟨hf, hno⟩ := hf
 rcases f with _ | ⟨_ | _, cap, sp⟩
 ·refine SK.all [] ?_ ?_
  ·((repeat' apply And.intro) <;> first | exact kD | (intro hgd; refine ⟨?_, kG⟩; (repeat' apply And.intro) <;> first | exact kD | skip) | skip)
  refine kW ?_
  refine kC (fun hb => ?_) fun hb => ?_
  ·have h1 : cl.write.1 ≠ 0 := by simpa using hb
   rw [if_pos h1]
   refine kW ?_
   exact AK.ret ⟨none, hf, ⟨_, rfl, rfl⟩, ⟨_, rfl, rfl⟩, ⟨_, rfl, rfl⟩, trivial⟩
  have h1 : ¬ cl.write.1 ≠ 0 := by simpa using hb
  rw [if_neg h1, ← hf2, ← hh2]
  clear hb h1 hwr hf2 hno hh2
  generalize cl.write.2 = c2 at *
  have ha := add_a 3
  have hd := del_g c2.nf hk2.k hi
  refine kW ?_
  refine AK.weak (Weak.introN (L := [(0, .np 2000000 0), (3, .ptr 3 0)]) (BL := [(3, idA i, false), (2000000, [.np 2900001 0, .int .i64 c2.last, .lst .nil 1 [], .int .i64 c2.fuse, .bool c2.down, npC], false), (2900001, [mcA (rowsE c2.has)], false)]) ⟨kI, kI, trivial⟩ ⟨kJ, kJ, kJ, trivial⟩ rfl rfl ⟨rfl, rfl, trivial⟩) ?_
  cases hfd : c2.find i with
  | none =>
   have hg := getN_g c2.nf hk2.k hi hfd
   refine AK.regaE fw0 [.s [2900001] [(2900001, [mcA (rowsE c2.has)])] (.tup [.agg zE, .bool false])] (frOf [(7, .bool false)]) ⟨boxOf [(2000000, [.np 2900001 0, .int .i64 c2.last, .lst .nil 1 [], .int .i64 c2.fuse, .bool c2.down, npC], false), (2900001, [mcA (rowsE c2.has)], false)], fun _ => 0⟩ ?_ ?_
   ·(repeat' (first | exact trivial | apply And.intro))
    all_goals first | (show _ = _; exact rfl) | (show MOp _ _ _ _ _ _; exact hg) | exact Weak.introN ⟨kI, trivial⟩ ⟨kJ, kJ, trivial⟩ rfl rfl ⟨rfl, rfl, trivial⟩
   refine kW ?_
   refine kCt ?_
   refine kW ?_
   exact AK.ret ⟨none, hf, ⟨_, rfl, rfl⟩, ⟨_, rfl, rfl⟩, ⟨_, rfl, rfl⟩, trivial⟩
  | some e =>
   have hg := getS_g c2.nf hk2.k hi hfd
   refine AK.regaE fw0 [.s [2900001] [(2900001, [mcA (rowsE c2.has)])] (.tup [.agg (enV e.body e.ver), .bool true])] (frOf [(0, .np 2000000 0), (3, .ptr 3 0), (7, .bool true)]) ⟨boxOf [(3, idA i, false), (2000000, [.np 2900001 0, .int .i64 c2.last, .lst .nil 1 [], .int .i64 c2.fuse, .bool c2.down, npC], false), (2900001, [mcA (rowsE c2.has)], false)], fun _ => 0⟩ ?_ ?_
   ·(repeat' (first | exact trivial | apply And.intro))
    all_goals first | (show _ = _; exact rfl) | (show MOp _ _ _ _ _ _; exact hg) | exact Weak.introN ⟨kI, kI, kI, trivial⟩ ⟨kJ, kJ, kJ, trivial⟩ rfl rfl ⟨rfl, rfl, trivial⟩
   refine kW ?_
   refine kCf ?_
   refine kW ?_
   refine kQ [.v (.int .i64 0)] ?_
   refine kW ?_
   refine kQ [.s [2900001] [(2900001, [mcA (rowsE (c2.has.filter fun e => decide (e.id ≠ i)))])] (.tup [])] ?_
   refine kW ?_
   exact AK.ret ⟨none, hf, ⟨_, rfl, rfl⟩, ⟨_, rfl, rfl⟩, ⟨_, rfl, rfl⟩, trivial⟩
 ·refine SK.all [] ?_ ?_
  ·((repeat' apply And.intro) <;> first | exact kD | (intro hgd; refine ⟨?_, kG⟩; (repeat' apply And.intro) <;> first | exact kD | skip) | skip)
  refine kW ?_
  refine kC (fun hb => ?_) fun hb => ?_
  ·have h1 : cl.write.1 ≠ 0 := by simpa using hb
   rw [if_pos h1]
   refine kW ?_
   exact AK.ret ⟨some (false, cap, sp), hf, ⟨_, rfl, rfl⟩, ⟨_, rfl, rfl⟩, ⟨_, rfl, rfl⟩, ⟨_, rfl, told_rowsJ _ _⟩, trivial⟩
  have h1 : ¬ cl.write.1 ≠ 0 := by simpa using hb
  exact absurd (hno rfl) h1
 ·refine SK.all [] ?_ ?_
  ·((repeat' apply And.intro) <;> first | exact kD | (intro hgd; refine ⟨?_, kG⟩; (repeat' apply And.intro) <;> first | exact kD | skip) | skip)
  refine kW ?_
  refine kC (fun hb => ?_) fun hb => ?_
  ·have h1 : cl.write.1 ≠ 0 := by simpa using hb
   rw [if_pos h1]
   refine kW ?_
   exact AK.ret ⟨some (true, cap, sp), hf, ⟨_, rfl, rfl⟩, ⟨_, rfl, rfl⟩, ⟨_, rfl, rfl⟩, ⟨_, rfl, told_rowsJ _ _⟩, trivial⟩
  have h1 : ¬ cl.write.1 ≠ 0 := by simpa using hb
  rw [if_neg h1, ← hf2, ← hh2]
  clear hb h1 hwr hf2 hno hh2
  generalize cl.write.2 = c2 at *
  have ha := add_a 3
  have hd := del_g c2.nf hk2.k hi
  refine kW ?_
  refine AK.weak (Weak.introN (L := [(0, .np 2000000 0), (3, .ptr 3 0)]) (BL := [(3, idA i, false), (2000000, [.np 2900001 0, .int .i64 c2.last, .sli 1000001 1 c2.fails.length cap, .int .i64 c2.fuse, .bool c2.down, npC], false), (2900001, [mcA (rowsE c2.has)], false), (1000001, fC c2.fails sp, false)]) ⟨kI, kI, trivial⟩ ⟨kJ, kJ, kJ, kJ, trivial⟩ rfl rfl ⟨rfl, rfl, all_rowsJ (fun _ => rfl) rfl _ _, trivial⟩) ?_
  cases hfd : c2.find i with
  | none =>
   have hg := getN_g c2.nf hk2.k hi hfd
   refine AK.regaE fw0 [.s [2900001] [(2900001, [mcA (rowsE c2.has)])] (.tup [.agg zE, .bool false])] (frOf [(7, .bool false)]) ⟨boxOf [(2000000, [.np 2900001 0, .int .i64 c2.last, .sli 1000001 1 c2.fails.length cap, .int .i64 c2.fuse, .bool c2.down, npC], false), (2900001, [mcA (rowsE c2.has)], false), (1000001, fC c2.fails sp, false)], fun _ => 0⟩ ?_ ?_
   ·(repeat' (first | exact trivial | apply And.intro))
    all_goals first | (show _ = _; exact rfl) | (show MOp _ _ _ _ _ _; exact hg) | exact Weak.introN ⟨kI, trivial⟩ ⟨kJ, kJ, kJ, trivial⟩ rfl rfl ⟨rfl, rfl, all_rowsJ (fun _ => rfl) rfl _ _, trivial⟩
   refine kW ?_
   refine kCt ?_
   refine kW ?_
   exact AK.ret ⟨some (true, cap, sp), hf, ⟨_, rfl, rfl⟩, ⟨_, rfl, rfl⟩, ⟨_, rfl, rfl⟩, ⟨_, rfl, told_rowsJ _ _⟩, trivial⟩
  | some e =>
   have hg := getS_g c2.nf hk2.k hi hfd
   refine AK.regaE fw0 [.s [2900001] [(2900001, [mcA (rowsE c2.has)])] (.tup [.agg (enV e.body e.ver), .bool true])] (frOf [(0, .np 2000000 0), (3, .ptr 3 0), (7, .bool true)]) ⟨boxOf [(3, idA i, false), (2000000, [.np 2900001 0, .int .i64 c2.last, .sli 1000001 1 c2.fails.length cap, .int .i64 c2.fuse, .bool c2.down, npC], false), (2900001, [mcA (rowsE c2.has)], false), (1000001, fC c2.fails sp, false)], fun _ => 0⟩ ?_ ?_
   ·(repeat' (first | exact trivial | apply And.intro))
    all_goals first | (show _ = _; exact rfl) | (show MOp _ _ _ _ _ _; exact hg) | exact Weak.introN ⟨kI, kI, kI, trivial⟩ ⟨kJ, kJ, kJ, kJ, trivial⟩ rfl rfl ⟨rfl, rfl, all_rowsJ (fun _ => rfl) rfl _ _, trivial⟩
   refine kW ?_
   refine kCf ?_
   refine kW ?_
   refine kQ [.v (.int .i64 0)] ?_
   refine kW ?_
   refine kQ [.s [2900001] [(2900001, [mcA (rowsE (c2.has.filter fun e => decide (e.id ≠ i)))])] (.tup [])] ?_
   refine kW ?_
   exact AK.ret ⟨some (true, cap, sp), hf, ⟨_, rfl, rfl⟩, ⟨_, rfl, rfl⟩, ⟨_, rfl, rfl⟩, ⟨_, rfl, told_rowsJ _ _⟩, trivial⟩
end Go.Proofs.YtgidajjjpeboeaaGreatDoor
