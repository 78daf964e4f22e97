/-
  The texts that the claim wants, one behind the other: part 20.
-/
import Derived.Test.YtgidajjjpeboeaaGreatDoorS19
import Derived.Test.YtgidajjjpeboeaaGreatDoorChecked
import Derived.KernelRfl
set_option linter.unusedSimpArgs false
set_option linter.unusedVariables false
namespace Go.Proofs.YtgidajjjpeboeaaGreatDoor
open Go.RowKit Go.Maps Go.MapKept Go.ChangeMaps
theorem someClu (neg : Bool) (g o : Nat) : NilRun Tryz.prog neg 33 (.pointer (some ⟨g, o, none⟩)) (.pointer none) false := by
 intro w x y hk
 have hg : (eqGuard (eqOp neg) 33 x y (.pointer (some ⟨g, o, none⟩)) (.pointer none)).run Tryz.prog w = .ok () w := by
  cases x <;> cases y <;> first | (cases hk; done) | (cases neg <;> simp [go_sem, eqGuard, eqOp])
 cases neg
 ·exact ⟨hg, by simp [go_sem, eqOp]⟩
 ·exact ⟨hg, by simp [go_sem, eqOp]⟩
theorem nilMet (neg : Bool) : NilRun Tryz.prog neg 67 (.pointer none) (.pointer none) true := by
 intro w x y hk
 have hg : (eqGuard (eqOp neg) 67 x y (.pointer none) (.pointer none)).run Tryz.prog w = .ok () w := by
  cases x <;> cases y <;> first | (cases hk; done) | (cases neg <;> simp [go_sem, eqGuard, eqOp])
 cases neg
 ·exact ⟨hg, by simp [go_sem, eqOp]⟩
 ·exact ⟨hg, by simp [go_sem, eqOp]⟩
abbrev npC : AV := .raw (.pointer none)
theorem add_a (k : Int) : AC Tryz.prog 44 [npC, .int .i64 k] (.int .i64 0) := by
 refine kE Tryz.func44 a_meter_Meter_Add_ok a_meter_Meter_Add_cb fun E hE => ?_
 refine kW ?_
 refine kP [] ?_ ?_
 ·((repeat' apply And.intro) <;> first | exact kD | (intro hgd; refine ⟨?_, kG⟩; (repeat' apply And.intro) <;> first | exact kD | skip) | skip)
  ·exact nilMet false
 refine kCt ?_
 refine kW ?_
 refine AK.ret ⟨_, rfl, ?_⟩
 rfl
theorem index0_a (n : Int) : AC Tryz.prog 124 [.lst .any 1 [], .int .i64 n] (.int .i64 (-1)) := by
 refine kE Tryz.func124 a_slices_Index_int_ok a_slices_Index_int_cb fun E hE => ?_
 refine kW ?_
 refine AK.loopI (fun _ : Unit => (frOf [(0, .lst .any 1 []), (1, .int .i64 n), (7, .int .i64 0), (8, .int .i64 0)], ⟨boxOf [], fun _ => 0⟩)) (fun _ => True) (fun _ => 0) () trivial (Weak.intro ⟨kI, kI, kI, kI, trivial⟩ trivial rfl rfl) fun _ _ => ?_
 refine kW ?_
 refine kCf ?_
 refine AK.exit rfl ?_
 refine kW ?_
 refine AK.ret ⟨_, rfl, ?_⟩
 rfl
theorem contains0_a (n : Int) : AC Tryz.prog 79 [.lst .any 1 [], .int .i64 n] (.bool false) := by
 refine kE Tryz.func79 a_slices_Contains_int_ok a_slices_Contains_int_cb fun E hE => ?_
 refine kW ?_
 refine kP [.v (.int .i64 (-1))] ?_ ?_
 ·((repeat' apply And.intro) <;> first | exact kD | (intro hgd; refine ⟨?_, kG⟩; (repeat' apply And.intro) <;> first | exact kD | skip) | skip)
  ·exact index0_a n
 refine kW ?_
 refine AK.ret ⟨_, rfl, ?_⟩
 rfl
abbrev cluC (m : Nat) (last fuse : Int) (down : Bool) : List AV := [.np m 0, .int .i64 last, .lst .any 1 [], .int .i64 fuse, .bool down, npC]
abbrev cluS (c m : Nat) (rows : List MRow) (last fuse : Int) (down : Bool) : List (Nat × List AV) := [(c, cluC m last fuse down), (m, [mcA rows])]
def wrE (fuse : Int) (down : Bool) : Int := if (down || decide (fuse = 0)) = true then 31 else 0
def wrF (fuse : Int) (down : Bool) : Int := if (down || decide (fuse = 0)) = true then fuse else if 0 < fuse then fuse - 1 else fuse
def wrD (fuse : Int) (down : Bool) : Bool := down || decide (fuse = 0)
theorem wr_dead {fuse : Int} {down : Bool} (h : down = true ∨ fuse = 0) : wrE fuse down = 31 ∧ wrF fuse down = fuse ∧ wrD fuse down = true := by
 have e : (down || decide (fuse = 0)) = true := by simpa using h
 refine ⟨?_, ?_, e⟩
 ·rw [wrE, if_pos e]
 ·rw [wrF, if_pos e]
theorem wr_live {fuse : Int} (h : fuse ≠ 0) : wrE fuse false = 0 ∧ wrF fuse false = (if 0 < fuse then fuse - 1 else fuse) ∧ wrD fuse false = false := by
 have e : (false || decide (fuse = 0)) = false := by simpa using h
 refine ⟨?_, ?_, e⟩
 ·rw [wrE, e]; rfl
 ·rw [wrF, e]; rfl
theorem write_m (rows : List MRow) (last fuse : Int) (down : Bool) (hf : -1000 ≤ fuse ∧ fuse ≤ 1000) : MS Tryz.prog 43 (cluS 2000000 2900001 rows last fuse down) [.np 2000000 0] (cluS 2000000 2900001 rows last (wrF fuse down) (wrD fuse down)) (.int .i64 (wrE fuse down)) := by
 have hcn := contains0_a 0
 refine MS.enter Tryz.func43 a_cluster_Cluster_write_ok a_cluster_Cluster_write_cb (by rfl) (by rfl) fun E hE => ?_
 show AK _ _ _ [.c b_cluster_Cluster_write] _ _
 rw [b_cluster_Cluster_write]
 cases down with
 | true =>
  obtain ⟨e1, e2, e3⟩ := wr_dead (fuse := fuse) (down := true) (.inl rfl)
  rw [e1, e2, e3]
  refine kW ?_
  refine kP [] ?_ ?_
  ·((repeat' apply And.intro) <;> first | exact kD | (intro hgd; refine ⟨?_, kG⟩; (repeat' apply And.intro) <;> first | exact kD | skip) | skip)
   ·exact fun g o => someClu false g o
  refine kCf ?_
  refine kW ?_
  refine kQ [] ?_
  refine kCt ?_
  refine kW ?_
  exact AK.ret ⟨⟨_, rfl, rfl⟩, ⟨_, rfl, rfl⟩, ⟨_, rfl, rfl⟩, trivial⟩
 | false =>
  refine kW ?_
  refine kP [] ?_ ?_
  ·((repeat' apply And.intro) <;> first | exact kD | (intro hgd; refine ⟨?_, kG⟩; (repeat' apply And.intro) <;> first | exact kD | skip) | skip)
   ·exact fun g o => someClu false g o
  refine kCf ?_
  refine kW ?_
  refine kQ [] ?_
  refine kC (fun hb => ?_) fun hb => ?_
  ·obtain ⟨e1, e2, e3⟩ := wr_dead (fuse := fuse) (down := false) (.inr (by simpa using hb))
   rw [e1, e2, e3]
   refine kW ?_
   exact AK.ret ⟨⟨_, rfl, rfl⟩, ⟨_, rfl, rfl⟩, ⟨_, rfl, rfl⟩, trivial⟩
  ·obtain ⟨e1, e2, e3⟩ := wr_live (fuse := fuse) (by simpa using hb)
   rw [e1, e2, e3]
   refine kW ?_
   refine kC (fun hb => ?_) fun hb => ?_
   ·have hl : 0 < fuse := by simpa using hb
    rw [if_pos hl, show fuse - 1 = IntKind.i64.wrap (fuse - 1) from (wrap_in (by omega) (by omega)).symm]
    refine kW ?_
    refine kQ [.v (.bool false)] ?_
    refine kW ?_
    refine AK.loopI (fun _ : Unit => (frOf [(0, .np 2000000 0), (3, .bool false), (4, .lst .nil 1 []), (46, .lst .any 1 []), (47, .int .i64 0), (48, .int .i64 0)], ⟨boxOf [(2000000, cluC 2900001 last (IntKind.i64.wrap (fuse - 1)) false, false), (2900001, [mcA rows], false)], fun _ => 0⟩)) (fun _ => True) (fun _ => 0) () trivial (Weak.introN ⟨kI, kI, kI, kI, kI, kI, trivial⟩ ⟨kJ, kJ, trivial⟩ rfl rfl ⟨rfl, rfl, trivial⟩) fun _ _ => ?_
    refine kW ?_
    refine kCf ?_
    refine AK.exit rfl ?_
    refine kW ?_
    refine AK.weak (Weak.introN (L := [(0, .np 2000000 0), (64, .bool false)]) (BL := [(2000000, cluC 2900001 last (IntKind.i64.wrap (fuse - 1)) false, false), (2900001, [mcA rows], false)]) ⟨kI, kI, trivial⟩ ⟨⟨_, rfl, .refl _, .refl _, .any .nil 1 [], .refl _, .refl _, .refl _, trivial⟩, kJ, trivial⟩ rfl rfl ⟨rfl, rfl, trivial⟩) ?_
    refine kCf ?_
    refine kW ?_
    exact AK.ret ⟨⟨_, rfl, rfl⟩, ⟨_, rfl, rfl⟩, ⟨_, rfl, rfl⟩, trivial⟩
   ·have hl : ¬ 0 < fuse := by simpa using hb
    rw [if_neg hl]
    refine kW ?_
    refine kQ [.v (.bool false)] ?_
    refine kW ?_
    refine AK.loopI (fun _ : Unit => (frOf [(0, .np 2000000 0), (3, .bool false), (4, .lst .nil 1 []), (46, .lst .any 1 []), (47, .int .i64 0), (48, .int .i64 0)], ⟨boxOf [(2000000, cluC 2900001 last fuse false, false), (2900001, [mcA rows], false)], fun _ => 0⟩)) (fun _ => True) (fun _ => 0) () trivial (Weak.introN ⟨kI, kI, kI, kI, kI, kI, trivial⟩ ⟨kJ, kJ, trivial⟩ rfl rfl ⟨rfl, rfl, trivial⟩) fun _ _ => ?_
    refine kW ?_
    refine kCf ?_
    refine AK.exit rfl ?_
    refine kW ?_
    refine AK.weak (Weak.introN (L := [(0, .np 2000000 0), (64, .bool false)]) (BL := [(2000000, cluC 2900001 last fuse false, false), (2900001, [mcA rows], false)]) ⟨kI, kI, trivial⟩ ⟨⟨_, rfl, .refl _, .refl _, .any .nil 1 [], .refl _, .refl _, .refl _, trivial⟩, kJ, trivial⟩ rfl rfl ⟨rfl, rfl, trivial⟩) ?_
    refine kCf ?_
    refine kW ?_
    exact AK.ret ⟨⟨_, rfl, rfl⟩, ⟨_, rfl, rfl⟩, ⟨_, rfl, rfl⟩, trivial⟩
end Go.Proofs.YtgidajjjpeboeaaGreatDoor
namespace Go.Proofs.YtgidajjjpeboeaaGreatDoor
set_option maxRecDepth 100000
def b_tree_byKey : ACode :=
 .seq (gQ [gP 2 0, gJ 4 0]) (.seq (gQ [gF 5 0 2, gL 6 5, gM 7 1, gC 8 103 [.s 6, .s 7], gM 4 8]) .ret)
def a_tree_byKey : AFn := ⟨2, 9, b_tree_byKey, [.tmp 4]⟩
theorem a_tree_byKey_ok : fnAF Tryz.prog [] Tryz.f63 = some a_tree_byKey := by kernel_rfl
theorem a_tree_byKey_cb : callable Tryz.prog 63 = true := by kernel_rfl
def b_slices_BinarySearchFunc_string : ACode :=
 .seq (gQ [gJ 6 0, ⟨gO, .mov 7 (.k (.bool false))⟩]) (.seq (gQ [gM 12 0, gH 13 false 12, gM 8 13]) (.seq (gQ [gM 14 8, gJ 9 0, gM 10 14]) (.seq (.block 0 (.loop (.seq (.seq (gQ [gM 15 9, gM 16 10, gV 17 .lss 15 16]) (.cond (.s 17) .skip (.exit 0))) (.block 1 (.seq (gQ [gM 18 9, gM 19 10, gV 20 .add 18 19, ⟨gO, .conv 21 .u64 (.s 20)⟩, ⟨gO, gB 22 .shr (.s 21) (.k (.int .u64 1))⟩, ⟨gO, .conv 23 .i64 (.s 22)⟩, gM 11 23]) (.seq (gQ [gM 24 2, gM 25 0, gM 26 11, gE 27 7 25 26, gA 28 7 27, gM 29 1, ⟨gO, .call (some 30) (.s 24) [.s 28, .s 29]⟩, gU 31 .lss 30 0]) (.cond (.s 31) (.reg [gM 32 11, gU 33 .add 32 1, gM 9 33]) (.reg [gM 34 11, gM 10 34])))))))) (.seq (gQ [gM 35 9, gM 36 9, gM 37 8, gV 38 .lss 36 37, gM 39 38, gN 39 true 40 2, gN 39 true 41 0, gN 39 true 42 9, ⟨some (39, true), .idx 43 7 (.s 41) (.s 42)⟩, ⟨some (39, true), .ld 44 7 true (.s 43)⟩, gN 39 true 45 1, ⟨some (39, true), .call (some 46) (.s 40) [.s 44, .s 45]⟩, ⟨some (39, true), .bin 47 .eql false (.s 46) (gI 0)⟩, ⟨gO, .pick 48 (.s 39) (.s 47) (.k (.bool false))⟩, gM 6 35, gM 7 48]) .ret))))
def a_slices_BinarySearchFunc_string : AFn := ⟨3, 49, b_slices_BinarySearchFunc_string, [.tmp 6, .tmp 7]⟩
theorem a_slices_BinarySearchFunc_string_ok : fnAF Tryz.prog [] Tryz.f62 = some a_slices_BinarySearchFunc_string := by kernel_rfl
theorem a_slices_BinarySearchFunc_string_cb : callable Tryz.prog 62 = true := by kernel_rfl
def b_strings_Compare : ACode :=
 .seq (gQ [gJ 4 0]) (.seq (gQ [gM 5 0, gM 6 1, gC 7 162 [.s 5, .s 6], gM 4 7]) .ret)
def a_strings_Compare : AFn := ⟨2, 8, b_strings_Compare, [.tmp 4]⟩
theorem a_strings_Compare_ok : fnAF Tryz.prog [] Tryz.f103 = some a_strings_Compare := by kernel_rfl
theorem a_strings_Compare_cb : callable Tryz.prog 103 = true := by kernel_rfl
end Go.Proofs.YtgidajjjpeboeaaGreatDoor
